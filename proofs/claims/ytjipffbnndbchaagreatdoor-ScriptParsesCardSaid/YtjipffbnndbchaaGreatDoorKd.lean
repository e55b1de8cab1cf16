/- How Lean's data lie in the model's memory: kinds, rows that are read, rows that the call owns. No program in sight. -/
import Derived.WalkKit
import Derived.WalkSpells
import Derived.WalkLawsBesides
import Derived.Maps.AppendAt
import Derived.Lib.Hide
namespace Go.Proofs.YtjipffbnndbchaaGreatDoor
open Go.RowKit

structure Kd (α : Type) where
  sz : Nat
  K : World → (Nat → Prop) → α → List Value → Prop
  len : ∀ {w A x cs}, K w A x cs → cs.length = sz
  one : ∀ {w A x cs}, K w A x cs → ∀ u ∈ cs, u.oneCell' = true
  mono : ∀ {w : World} {A B : Nat → Prop} {x cs}, (∀ k, A k → k < w.heap.size → B k) → K w A x cs → K w B x cs
  keep : ∀ {w w' : World} {A : Nat → Prop} {x cs}, (∀ k, A k → k < w.heap.size → w'.heap[k]? = w.heap[k]?) → w.heap.size ≤ w'.heap.size → K w A x cs → K w' A x cs

/-- Cells of several things, one behind the other. -/
def Elems {α : Type} (d : Kd α) (w : World) (A : Nat → Prop) : List α → List Value → Prop
  | [], cs => cs = []
  | x :: xs, cs => ∃ c r, cs = c ++ r ∧ d.K w A x c ∧ Elems d w A xs r

namespace Elems
variable {α : Type} {d : Kd α} {w w' : World} {A B : Nat → Prop}
theorem len : ∀ {xs : List α} {cs : List Value}, Elems d w A xs cs → cs.length = xs.length * d.sz
  | [], _, h => by simp [Elems] at h; simp [h]
  | x :: xs, _, h => by
    obtain ⟨c, r, rfl, hc, hr⟩ := h
    simp [d.len hc, len hr, Nat.add_mul, Nat.add_comm]
theorem one : ∀ {xs : List α} {cs : List Value}, Elems d w A xs cs → ∀ u ∈ cs, u.oneCell' = true
  | [], _, h => by simp [Elems] at h; simp [h]
  | x :: xs, _, h => by
    obtain ⟨c, r, rfl, hc, hr⟩ := h
    intro u hu
    rcases List.mem_append.1 hu with hu | hu
    · exact d.one hc u hu
    · exact one hr u hu
theorem mono (hAB : ∀ k, A k → k < w.heap.size → B k) : ∀ {xs : List α} {cs : List Value}, Elems d w A xs cs → Elems d w B xs cs
  | [], _, h => h
  | _ :: _, _, ⟨c, r, e, hc, hr⟩ => ⟨c, r, e, d.mono hAB hc, mono hAB hr⟩
theorem keep (hk : ∀ k, A k → k < w.heap.size → w'.heap[k]? = w.heap[k]?) (hs : w.heap.size ≤ w'.heap.size) : ∀ {xs : List α} {cs : List Value}, Elems d w A xs cs → Elems d w' A xs cs
  | [], _, h => h
  | _ :: _, _, ⟨c, r, e, hc, hr⟩ => ⟨c, r, e, d.keep hk hs hc, keep hk hs hr⟩
theorem app : ∀ {xs ys : List α} {cs ds : List Value}, Elems d w A xs cs → Elems d w A ys ds → Elems d w A (xs ++ ys) (cs ++ ds)
  | [], _, _, _, h, k => by simp only [Elems] at h; subst h; simpa using k
  | x :: xs, ys, _, ds, ⟨c, r, e, hc, hr⟩, k => ⟨c, r ++ ds, by rw [e, List.append_assoc], hc, app hr k⟩
theorem single {x : α} {c : List Value} (h : d.K w A x c) : Elems d w A [x] c := ⟨c, [], by simp, h, rfl⟩
theorem at_ : ∀ {xs : List α} {cs : List Value}, Elems d w A xs cs → ∀ i (h : i < xs.length), d.K w A xs[i] ((cs.drop (i * d.sz)).take d.sz)
  | x :: xs, _, ⟨c, r, e, hc, hr⟩, 0, _ => by
    subst e
    rw [Nat.zero_mul, List.drop_zero, ← d.len hc, List.take_left]
    exact hc
  | x :: xs, _, ⟨c, r, e, hc, hr⟩, i + 1, h => by
    subst e
    have := at_ hr i (by simpa using h)
    rw [show (i + 1) * d.sz = c.length + i * d.sz from by rw [d.len hc, Nat.add_mul]; omega, ← List.drop_drop, List.drop_left]
    simpa using this
theorem split : ∀ {xs ys : List α} {cs : List Value}, Elems d w A (xs ++ ys) cs → ∃ c1 c2, cs = c1 ++ c2 ∧ Elems d w A xs c1 ∧ Elems d w A ys c2
  | [], _, cs, h => ⟨[], cs, rfl, rfl, h⟩
  | x :: xs, ys, _, ⟨c, r, e, hc, hr⟩ => by
    obtain ⟨c1, c2, e2, h1, h2⟩ := split hr
    exact ⟨c ++ c1, c2, by rw [e, e2, List.append_assoc], ⟨c, c1, rfl, hc, h1⟩, h2⟩
end Elems

theorem cell_blk {w w' : World} (p : Addr) (h : w'.heap[p.block]? = w.heap[p.block]?) : w'.cell? p = w.cell? p := World.cell?_of_block (w := w) h
theorem frozen_blk {w w' : World} (p : Addr) (h : w'.heap[p.block]? = w.heap[p.block]?) : w'.frozen? p = w.frozen? p := World.frozen?_of_block (w := w) h

/-- What was there when the call began is as it was. -/
abbrev Ext (w w' : World) : Prop := Below w.heap.size w w'
theorem Ext.rfl_ (w : World) : Ext w w := Below.refl _ _
theorem Ext.trans {a b c : World} (h : Ext a b) (k : Ext b c) : Ext a c := Below.trans h (Below.mono k h.size)
theorem Ext.alloc {a b : World} (h : Ext a b) (o : Obj) : Ext a (b.alloc o) := Below.alloc h h.size o
theorem Ext.drew {a b : World} (h : Ext a b) : Ext a b.drew := Below.drew h
theorem Ext.drewN {a b : World} (h : Ext a b) (n : Nat) : Ext a (b.drewN n) := ⟨h.os, h.tape, h.output, h.size, h.block⟩
theorem Ext.set {a b : World} (h : Ext a b) {p : Addr} (hp : a.heap.size ≤ p.block) (u : Value) : Ext a (b.setCell p u) := Below.setCell h hp u
theorem ret_int {k : IntKind} {a b : Int} (h : a = b) : Ending.returned (.int k a) = .returned (.int k b) := by rw [h]
theorem ret_bool {a b : Bool} (h : a = b) : Ending.returned (.bool a) = .returned (.bool b) := by rw [h]
theorem ret_str {a b : ByteArray} (h : a = b) : Ending.returned (.string a) = .returned (.string b) := by rw [h]
theorem alloc2_fst (w : World) (o1 o2 : Obj) : ((w.alloc o1).alloc o2).heap[w.heap.size]? = some o1 := (Below.heap_alloc (w.alloc o1) o2 w.heap.size (by simp)).trans (heap_alloc_new w o1)
theorem alloc2_snd (w : World) (o1 o2 : Obj) : ((w.alloc o1).alloc o2).heap[w.heap.size + 1]? = some o2 := by
  have := heap_alloc_new (w.alloc o1) o2
  simpa only [World.alloc, Array.size_push] using this
theorem bcell {W w1 : World} (hb : Below W.heap.size W w1) : (∀ b o, b < W.heap.size → w1.cell? ⟨b, o, none⟩ = W.cell? ⟨b, o, none⟩) ∧ (∀ b o, b < W.heap.size → w1.frozen? ⟨b, o, none⟩ = W.frozen? ⟨b, o, none⟩) ∧ ∀ n, n < W.heap.size → n < w1.heap.size :=
  ⟨fun b o h => hb.cell (p := ⟨b, o, none⟩) h, fun b o h => hb.frozen (p := ⟨b, o, none⟩) h, fun _ h => Nat.lt_of_lt_of_le h hb.size⟩

/-- A row of elements that is read: a slice's address, length and capacity. -/
def Row {α : Type} (d : Kd α) (w : World) (A : Nat → Prop) (a : Option Addr) (cap : Nat) (xs : List α) : Prop :=
  xs.length ≤ cap ∧ cap ≤ maxLen ∧ (a = none → cap = 0) ∧
  ∀ ad, a = some ad → xs ≠ [] → ad.spot = none ∧ A ad.block ∧ ad.block < w.heap.size ∧ ∃ cs, Elems d w A xs cs ∧ ∀ i u, cs[i]? = some u → w.cell? ⟨ad.block, ad.off + i, none⟩ = some u

namespace Row
variable {α : Type} {d : Kd α} {w w' : World} {A B : Nat → Prop} {a : Option Addr} {cap : Nat} {xs : List α}
theorem nil_ : Row d w A none 0 [] := ⟨by simp, by simp [maxLen], fun _ => rfl, fun _ h => by simp at h⟩
theorem empty (h : a = none → cap = 0) (hm : cap ≤ maxLen) : Row d w A a cap [] := ⟨by simp, hm, h, fun _ _ h => absurd rfl h⟩
theorem mono (hAB : ∀ k, A k → k < w.heap.size → B k) (h : Row d w A a cap xs) : Row d w B a cap xs :=
  ⟨h.1, h.2.1, h.2.2.1, fun ad e ne => let ⟨h1, h2, h3, cs, h4, h5⟩ := h.2.2.2 ad e ne; ⟨h1, hAB _ h2 h3, h3, cs, h4.mono hAB, h5⟩⟩
theorem keep (hk : ∀ k, A k → k < w.heap.size → w'.heap[k]? = w.heap[k]?) (hs : w.heap.size ≤ w'.heap.size) (h : Row d w A a cap xs) : Row d w' A a cap xs :=
  ⟨h.1, h.2.1, h.2.2.1, fun ad e ne => let ⟨h1, h2, h3, cs, h4, h5⟩ := h.2.2.2 ad e ne;
    ⟨h1, h2, Nat.lt_of_lt_of_le h3 hs, cs, h4.keep hk hs, fun i u hu => (cell_blk ⟨ad.block, ad.off + i, none⟩ (hk _ h2 h3)).trans (h5 i u hu)⟩⟩
theorem below (h : Row d w A a cap xs) (hb : Below w.heap.size w w') : Row d w' A a cap xs := h.keep (fun k _ hk => hb.block k hk) hb.size
theorem none_len (h : Row d w A none cap xs) : xs = [] := by
  have := h.1; have := h.2.2.1 rfl
  exact List.eq_nil_of_length_eq_zero (by omega)
theorem some_of (h : Row d w A a cap xs) (hi : 0 < xs.length) : ∃ b off, a = some ⟨b, off, none⟩ ∧ b < w.heap.size ∧ A b := by
  match a, h with
  | none, h => have := h.none_len; subst this; simp at hi
  | some ⟨b, off, s⟩, h =>
    obtain ⟨h1, h2, h3, _⟩ := h.2.2.2 _ rfl (by intro e; subst e; simp at hi)
    simp at h1; subst h1
    exact ⟨b, off, rfl, h3, h2⟩
/-- Element i: its cells, and where they stand. -/
theorem at_ {b off : Nat} (h : Row d w A (some ⟨b, off, none⟩) cap xs) (i : Nat) (hi : i < xs.length) :
    ∃ c, d.K w A xs[i] c ∧ ∀ j u, c[j]? = some u → w.cell? ⟨b, off + i * d.sz + j, none⟩ = some u := by
  obtain ⟨_, _, _, cs, h4, h5⟩ := h.2.2.2 _ rfl (by intro e; subst e; simp at hi)
  refine ⟨_, h4.at_ i hi, fun j u hu => ?_⟩
  have hj : j < d.sz := by
    have : j < ((cs.drop (i * d.sz)).take d.sz).length := by
      rcases Nat.lt_or_ge j ((cs.drop (i * d.sz)).take d.sz).length with h | h
      · exact h
      · rw [List.getElem?_eq_none h] at hu; cases hu
    simp at this; omega
  rw [List.getElem?_take, if_pos hj, List.getElem?_drop] at hu
  have := h5 _ _ hu
  rwa [← Nat.add_assoc] at this
theorem tail {b off : Nat} {x : α} {xs : List α} (h : Row d w A (some ⟨b, off, none⟩) cap (x :: xs)) : Row d w A (some ⟨b, off + d.sz, none⟩) (cap - 1) xs := by
  obtain ⟨h1, h2, _, h4⟩ := h
  simp only [List.length_cons] at h1
  refine ⟨by omega, by omega, by simp, fun ad e ne => ?_⟩
  simp only [Option.some.injEq] at e
  subst e
  obtain ⟨_, h5, h6, cs, ⟨c, r, rfl, hc, hr⟩, h8⟩ := h4 _ rfl (by simp)
  refine ⟨rfl, h5, h6, r, hr, fun i u hu => ?_⟩
  have := h8 (d.sz + i) u (by rw [← d.len hc, List.getElem?_append_right (by omega)]; simpa using hu)
  simpa [Nat.add_assoc] using this
end Row

/-- Of what was there only blocks in S may have turned. -/
structure Only (S : Nat → Prop) (w w' : World) : Prop where
  os : w'.os = w.os
  tape : w'.tape = w.tape
  output : w'.output = w.output
  size : w.heap.size ≤ w'.heap.size
  block : ∀ k, k < w.heap.size → ¬ S k → w'.heap[k]? = w.heap[k]?
namespace Only
variable {S T : Nat → Prop} {a b c : World}
theorem refl (S : Nat → Prop) (w : World) : Only S w w := ⟨rfl, rfl, rfl, Nat.le_refl _, fun _ _ _ => rfl⟩
theorem trans (h : Only S a b) (k : Only S b c) : Only S a c :=
  ⟨k.os.trans h.os, k.tape.trans h.tape, k.output.trans h.output, Nat.le_trans h.size k.size, fun i hi hs => (k.block i (Nat.lt_of_lt_of_le hi h.size) hs).trans (h.block i hi hs)⟩
theorem mono (h : Only S a b) (hST : ∀ k, k < a.heap.size → S k → T k) : Only T a b := ⟨h.os, h.tape, h.output, h.size, fun k hk ht => h.block k hk fun hs => ht (hST k hk hs)⟩
theorem of_ext (h : Ext a b) : Only S a b := ⟨h.os, h.tape, h.output, h.size, fun k hk _ => h.block k hk⟩
theorem ext (h : Only S a b) (hS : ∀ k, k < a.heap.size → ¬ S k) : Ext a b := ⟨h.os, h.tape, h.output, h.size, fun k hk => h.block k hk (hS k hk)⟩
theorem below {B : Nat} (h : Only S a b) (hS : ∀ k, k < B → ¬ S k) (hB : B ≤ a.heap.size) : Below B a b := ⟨h.os, h.tape, h.output, h.size, fun k hk => h.block k (Nat.lt_of_lt_of_le hk hB) (hS k hk)⟩
theorem alloc (h : Only S a b) (o : Obj) : Only S a (b.alloc o) := h.trans (of_ext (Ext.alloc (Ext.rfl_ _) o))
theorem drewN (h : Only S a b) (n : Nat) : Only S a (b.drewN n) := h.trans (of_ext (Ext.drewN (Ext.rfl_ _) n))
theorem drew (h : Only S a b) : Only S a b.drew := h.trans (of_ext (Ext.drew (Ext.rfl_ _)))
theorem set (h : Only S a b) {p : Addr} (hp : p.block < a.heap.size → S p.block) (u : Value) : Only S a (b.setCell p u) :=
  ⟨h.os, h.tape, h.output, by simpa [World.setCell] using h.size, fun k hk hs => (Below.heap_setCell b p u k (by intro e; subst e; exact hs (hp hk))).trans (h.block k hk hs)⟩
theorem trans' (h : Only S a b) (k : Only T b c) (hT : ∀ i, i < a.heap.size → T i → S i) : Only S a c :=
  ⟨k.os.trans h.os, k.tape.trans h.tape, k.output.trans h.output, Nat.le_trans h.size k.size, fun i hi hs => (k.block i (Nat.lt_of_lt_of_le hi h.size) (fun ht => hs (hT i hi ht))).trans (h.block i hi hs)⟩
theorem then_ext (h : Only S a b) (k : Ext b c) : Only S a c := h.trans (of_ext k)
end Only

/-- A store into a block that is known whole. -/
theorem set_cells {w : World} {r : Nat} {cs : Array Value} {T : TypeId} {fr : Nat × Nat} (h : w.heap[r]? = some (.cells cs T fr)) (i : Nat) (v : Value) :
    (w.setCell ⟨r, i, none⟩ v).heap[r]? = some (.cells (cs.setIfInBounds i v) T fr) := by
  simp [World.setCell, Array.getElem?_modify, h]
theorem set_other {w : World} {r k i : Nat} (h : k ≠ r) (v : Value) : (w.setCell ⟨r, i, none⟩ v).heap[k]? = w.heap[k]? := Below.heap_setCell w ⟨r, i, none⟩ v k h

/-! ### max and min of two whole numbers -/
theorem two_max (k k' : IntKind) (x y : Int) (ats : Array TypeId) (ty : TypeId) : Builtin.max_ ats ty #[.int k x, .int k' y] = pure (.int k (if x < y then y else x)) := by
  simp [Builtin.max_, Builtin.max2]
theorem two_min (k k' : IntKind) (x y : Int) (ats : Array TypeId) (ty : TypeId) : Builtin.min_ ats ty #[.int k x, .int k' y] = pure (.int k (if y < x then y else x)) := by
  simp [Builtin.min_, Builtin.min2]

/-! ### Kinds -/
def InK : IntKind → Int → Prop
  | .i8, n => -128 ≤ n ∧ n ≤ 127
  | .i16, n => -32768 ≤ n ∧ n ≤ 32767
  | .i32, n => -2147483648 ≤ n ∧ n ≤ 2147483647
  | .i64, n => -9223372036854775808 ≤ n ∧ n ≤ 9223372036854775807
  | .u8, n => 0 ≤ n ∧ n ≤ 255
  | .u16, n => 0 ≤ n ∧ n ≤ 65535
  | .u32, n => 0 ≤ n ∧ n ≤ 4294967295
  | .u64, n => 0 ≤ n ∧ n ≤ 18446744073709551615

/-- A thing of one cell, told by the value alone. -/
def Kd.scalar {α : Type} (enc : α → Value) (ok : α → Prop) (h1 : ∀ x, (enc x).oneCell' = true) : Kd α where
  sz := 1
  K := fun _ _ x cs => cs = [enc x] ∧ ok x
  len := fun ⟨e, _⟩ => by subst e; rfl
  one := fun ⟨e, _⟩ u hu => by subst e; simp at hu; subst hu; exact h1 _
  mono := fun _ h => h
  keep := fun _ _ h => h
def Kd.int (k : IntKind) : Kd Int := Kd.scalar (Value.int k) (InK k) (fun _ => rfl)
def Kd.u8 : Kd UInt8 := Kd.scalar (fun b => .int .u8 (b.toNat : Int)) (fun _ => True) (fun _ => rfl)
def Kd.bool : Kd Bool := Kd.scalar Value.bool (fun _ => True) (fun _ => rfl)
def Kd.str : Kd ByteArray := Kd.scalar Value.string (fun _ => True) (fun _ => rfl)
def Kd.slice {α : Type} (d : Kd α) : Kd (List α) where
  sz := 1
  K := fun w A xs cs => ∃ a cap, cs = [.slice a xs.length cap] ∧ Row d w A a cap xs
  len := fun ⟨_, _, e, _⟩ => by subst e; rfl
  one := fun ⟨_, _, e, _⟩ u hu => by subst e; simp at hu; subst hu; rfl
  mono := fun h ⟨a, c, e, r⟩ => ⟨a, c, e, r.mono h⟩
  keep := fun h hs ⟨a, c, e, r⟩ => ⟨a, c, e, r.keep h hs⟩
def Kd.pair {α β : Type} (d : Kd α) (f : Kd β) : Kd (α × β) where
  sz := d.sz + f.sz
  K := fun w A x cs => ∃ c r, cs = c ++ r ∧ d.K w A x.1 c ∧ f.K w A x.2 r
  len := fun ⟨c, r, e, h, k⟩ => by subst e; simp [d.len h, f.len k]
  one := fun ⟨c, r, e, h, k⟩ u hu => by
    subst e
    rcases List.mem_append.1 hu with hu | hu
    · exact d.one h u hu
    · exact f.one k u hu
  mono := fun m ⟨c, r, e, h, k⟩ => ⟨c, r, e, d.mono m h, f.mono m k⟩
  keep := fun m hs ⟨c, r, e, h, k⟩ => ⟨c, r, e, d.keep m hs h, f.keep m hs k⟩
def Kd.iso {α β : Type} (d : Kd α) (f : β → α) : Kd β where
  sz := d.sz
  K := fun w A x cs => d.K w A (f x) cs
  len := fun h => d.len h
  one := fun h => d.one h
  mono := fun m h => d.mono m h
  keep := fun m hs h => d.keep m hs h

@[simp] theorem Kd.int_K {k : IntKind} {w A n cs} : (Kd.int k).K w A n cs ↔ cs = [.int k n] ∧ InK k n := Iff.rfl
@[simp] theorem Kd.u8_K {w A b cs} : Kd.u8.K w A b cs ↔ cs = [.int .u8 (b.toNat : Int)] := ⟨fun h => h.1, fun h => ⟨h, trivial⟩⟩
@[simp] theorem Kd.bool_K {w A b cs} : Kd.bool.K w A b cs ↔ cs = [.bool b] := ⟨fun h => h.1, fun h => ⟨h, trivial⟩⟩
@[simp] theorem Kd.str_K {w A s cs} : Kd.str.K w A s cs ↔ cs = [.string s] := ⟨fun h => h.1, fun h => ⟨h, trivial⟩⟩
theorem Kd.slice_K {α : Type} {d : Kd α} {w A xs cs} : d.slice.K w A xs cs ↔ ∃ a cap, cs = [.slice a xs.length cap] ∧ Row d w A a cap xs := Iff.rfl
theorem Kd.pair_K {α β : Type} {d : Kd α} {f : Kd β} {w A x cs} : (d.pair f).K w A x cs ↔ ∃ c r, cs = c ++ r ∧ d.K w A x.1 c ∧ f.K w A x.2 r := Iff.rfl
theorem Kd.iso_K {α β : Type} {d : Kd α} {f : β → α} {w A x cs} : (d.iso f).K w A x cs ↔ d.K w A (f x) cs := Iff.rfl

/-! ### Rows that the call owns -/
/-- The slice value v owns a row of its own (elements of type e, in a block from base on) that tells ys; what they lead to lies in A, and not in that row. -/
def Own {α : Type} (d : Kd α) (e : TypeId) (w : World) (base : Nat) (A : Nat → Prop) (v : Value) (ys : List α) : Prop :=
  ∃ cs, w.ownsRow base e d.sz v ys.length cs ∧ Elems d w (fun k => A k ∧ some k ≠ v.ownBlock) ys cs

namespace Own
variable {α : Type} {d : Kd α} {e : TypeId} {w w' : World} {base : Nat} {A B : Nat → Prop} {v : Value} {ys : List α}
theorem nil_ (w : World) (base : Nat) (A : Nat → Prop) : Own d e w base A (.slice none 0 0) [] := ⟨[], ⟨by simp, .inl ⟨rfl, rfl⟩⟩, rfl⟩
theorem mono (h : ∀ k, A k → k < w.heap.size → B k) (o : Own d e w base A v ys) : Own d e w base B v ys :=
  let ⟨cs, h1, h2⟩ := o; ⟨cs, h1, h2.mono fun k hk hs => ⟨h k hk.1 hs, hk.2⟩⟩
theorem shape (o : Own d e w base A v ys) : ∃ a cap, v = .slice a ys.length cap ∧ ys.length ≤ cap ∧ cap ≤ maxLen := by
  obtain ⟨cs, ⟨_, h⟩, _⟩ := o
  rcases h with ⟨rfl, h⟩ | ⟨g, cap, cur, rfl, _, _, h1, h2, _⟩
  · exact ⟨none, 0, by rw [h], by omega, by simp [maxLen]⟩
  · exact ⟨_, cap, rfl, h1, h2⟩
theorem block_lt (o : Own d e w base A v ys) {k : Nat} (hk : v.ownBlock = some k) : k < w.heap.size ∧ base ≤ k := by
  obtain ⟨cs, ⟨_, h⟩, _⟩ := o
  rcases h with ⟨rfl, _⟩ | ⟨g, cap, cur, rfl, hg, hh, _⟩
  · simp [Value.ownBlock] at hk
  · simp [Value.ownBlock] at hk
    subst hk
    exact ⟨(Array.getElem?_eq_some_iff.1 hh).1, hg⟩
theorem keep (o : Own d e w base A v ys) (hk : ∀ k, (A k ∨ some k = v.ownBlock) → k < w.heap.size → w'.heap[k]? = w.heap[k]?) (hs : w.heap.size ≤ w'.heap.size) : Own d e w' base A v ys := by
  have hb := fun k hk => (o.block_lt (k := k) hk).1
  obtain ⟨cs, ⟨h0, h⟩, h2⟩ := o
  refine ⟨cs, ⟨h0, ?_⟩, h2.keep (fun k h hlt => hk k (.inl h.1) hlt) hs⟩
  rcases h with h | ⟨g, cap, cur, rfl, hg, hh, r⟩
  · exact .inl h
  · exact .inr ⟨g, cap, cur, rfl, hg, (hk g (.inr rfl) (hb g rfl)).trans hh, r⟩
theorem below (o : Own d e w base A v ys) (hb : Below w.heap.size w w') : Own d e w' base A v ys := o.keep (fun k _ h => hb.block k h) hb.size
theorem alloc (o : Own d e w base A v ys) (x : Obj) : Own d e (w.alloc x) base A v ys := o.below ((Below.refl _ _).alloc (Nat.le_refl _) _)
theorem drew (o : Own d e w base A v ys) : Own d e w.drew base A v ys := o.below (Below.refl _ _).drew
theorem lower {base' : Nat} (o : Own d e w base A v ys) (h : base' ≤ base) : Own d e w base' A v ys := by
  obtain ⟨cs, ⟨h0, h1⟩, h2⟩ := o
  refine ⟨cs, ⟨h0, ?_⟩, h2⟩
  rcases h1 with h1 | ⟨g, cap, cur, rfl, hg, r⟩
  · exact .inl h1
  · exact .inr ⟨g, cap, cur, rfl, Nat.le_trans h hg, r⟩
/-- As a row that is read. -/
theorem row (o : Own d e w base A v ys) : ∃ a cap, v = .slice a ys.length cap ∧ Row d w (fun k => A k ∨ base ≤ k) a cap ys := by
  have hb := fun k hk => (o.block_lt (k := k) hk)
  obtain ⟨cs, ⟨h0, h⟩, h2⟩ := o
  rcases h with ⟨rfl, h⟩ | ⟨g, cap, cur, rfl, hg, hh, h3, h4, h5, h6⟩
  · have : ys = [] := List.eq_nil_of_length_eq_zero h
    subst this
    exact ⟨none, 0, rfl, Row.nil_⟩
  · refine ⟨_, cap, rfl, h3, h4, by simp, fun ad ea ne => ?_⟩
    simp at ea
    subst ea
    refine ⟨rfl, .inr hg, (hb g rfl).1, cs, h2.mono fun k hk _ => .inl hk.1, fun i u hu => ?_⟩
    have hcell : w.cell? ⟨g, 0 + i, none⟩ = cur[0 + i]? := by simp [World.cell?, hh]
    rw [hcell, Nat.zero_add]
    have hi : i < ys.length * d.sz := by
      have : i < cs.length := by
        rcases Nat.lt_or_ge i cs.length with h | h
        · exact h
        · rw [List.getElem?_eq_none h] at hu; cases hu
      rw [h0] at this; exact this
    rw [← h6, List.getElem?_take, if_pos hi] at hu
    simpa using hu
end Own

/-- What an append leaves of the rest. -/
theorem Below.app {B : Nat} {W w w' : World} {v : Value} (h : Below B W w) (hg : w.grownBy w' v.ownBlock) (hB : B ≤ w.heap.size) (hv : ∀ k, v.ownBlock = some k → B ≤ k) : Below B W w' :=
  h.grown hg hB hv

/-- 'append(s, new ..)' onto a slice of the call's own. -/
theorem run_push {P : Program} (w : World) {α : Type} (d : Kd α) (e t ty : TypeId) (i : TypeInfo) (z : Value) (bytes base : Nat) (A : Nat → Prop) (v : Value) (ys : List α) (a : Addr) (c : Nat) (zs : List α) (news : List Value)
    (ht : P.underlying t = some (.slice e)) (hi : P.info? e = some i) (hz : i.zero = some z) (hsize : i.size = d.sz) (hby : i.bytes = bytes) (hzs : z.cells.size = d.sz) (hsz : 0 < d.sz)
    (o : Own d e w base A v ys) (hnew : Elems d w (fun k => A k ∧ some k ≠ v.ownBlock) zs news) (hcell : ∀ j u, news[j]? = some u → w.cell? (a.add j) = some u)
    (h63 : ys.length + zs.length ≤ maxLen) (hbytes : (ys.length + zs.length) * bytes ≤ 140737488355328) (hbase : base ≤ w.heap.size) :
    ∃ v' w', (Builtin.append_ #[t, t] ty #[v, .slice (some a) zs.length c]).run P w = .ok v' w' ∧ Own d e w' base A v' (ys ++ zs) ∧ w.grownBy w' v.ownBlock ∧ (v'.ownBlock = v.ownBlock ∨ v'.ownBlock = some w.heap.size) := by
  obtain ⟨cs, hown, hel⟩ := o
  obtain ⟨v', w', h1, h2, h3, _, h5⟩ := run_append_own_at (P := P) w base t ty e i z d.sz bytes ht hi hz hsize hby hzs hsz v ys.length cs hown a zs.length c news hnew.len hcell hnew.one h63 hbytes hbase
  refine ⟨v', w', h1, ⟨cs ++ news, by rw [List.length_append]; exact h2, ?_⟩, h3, h5⟩
  have hold := (hel.app hnew)
  have h6 : Elems d w' (fun k => (A k ∧ some k ≠ v.ownBlock) ∧ k < w.heap.size) (ys ++ zs) (cs ++ news) :=
    (hold.mono (B := fun k => (A k ∧ some k ≠ v.ownBlock) ∧ k < w.heap.size) fun k hk hlt => ⟨hk, hlt⟩).keep (fun k hk hlt => h3.block k hlt hk.1.2) h3.size
  refine h6.mono fun k hk _ => ⟨hk.1.1, ?_⟩
  rcases h5 with h5 | h5
  · rw [h5]; exact hk.1.2
  · rw [h5]; intro e; have := hk.2; simp at e; omega

theorem wpList_push {P : Program} (w : World) {ops : Array Oper} {rest : List Oper} {o : Oper} {a : Act} {Q : Exit → Act → World → Prop} {α : Type} (d : Kd α) (e t : TypeId) (i : TypeInfo) (z : Value) (bytes base : Nat) (A : Nat → Prop) (v : Value) (ys : List α) (ad : Addr) (m c : Nat) (zs : List α) (news : List Value)
    (hgd : o.guard = none) (s x : Operand) (ho : o.op = .call { callee := .builtin .append, args := #[s, x], argTypes := #[t, t] })
    (ht : P.underlying t = some (.slice e)) (hi : P.info? e = some i) (hz : i.zero = some z) (hsize : i.size = d.sz) (hby : i.bytes = bytes) (hzs : z.cells.size = d.sz) (hsz : 0 < d.sz)
    (hs : a.eval s = v) (hx : a.eval x = .slice (some ad) m c) (hm : m = zs.length) (own : Own d e w base A v ys) (hnew : Elems d w (fun k => A k ∧ some k ≠ v.ownBlock) zs news) (hcell : ∀ j u, news[j]? = some u → w.cell? (ad.add j) = some u)
    (h63 : ys.length + zs.length ≤ maxLen) (hbytes : (ys.length + zs.length) * bytes ≤ 140737488355328) (hbase : base ≤ w.heap.size)
    (h : ∀ v' w', Own d e w' base A v' (ys ++ zs) → w.grownBy w' v.ownBlock → (v'.ownBlock = v.ownBlock ∨ v'.ownBlock = some w.heap.size) → wpList P ops Q rest (a.put o.dst v') w') : wpList P ops Q (o :: rest) a w := by
  subst hm
  refine wpList_plain hgd fun _ hK => ?_
  obtain ⟨v', w', hr, h2, h3, h4⟩ := run_push (P := P) w d e t o.type i z bytes base A v ys ad c zs news ht hi hz hsize hby hzs hsz own hnew hcell h63 hbytes hbase
  unfold Oper.wp execOp
  simp only [ho, resolve, invoke, builtin, Sem.run_bind, Sem.run_pure, Result.andThen_ok, List.map_toArray, List.map_cons, List.map_nil, hs, hx, hr]
  exact hK _ _ (h v' w' h2 h3 h4)

/-- 'append(s, x)': the new element lies in a block that has just been made. -/
theorem wpList_push1 {P : Program} (w : World) (cs : Array Value) (T : TypeId) {ops : Array Oper} {rest : List Oper} {o : Oper} {a : Act} {Q : Exit → Act → World → Prop} {α : Type} (d : Kd α) (e t : TypeId) (i : TypeInfo) (z : Value) (bytes base : Nat) (A : Nat → Prop) (v : Value) (ys : List α) (y : α)
    (hgd : o.guard = none) (s x : Operand) (ho : o.op = .call { callee := .builtin .append, args := #[s, x], argTypes := #[t, t] })
    (ht : P.underlying t = some (.slice e)) (hi : P.info? e = some i) (hz : i.zero = some z) (hsize : i.size = d.sz) (hby : i.bytes = bytes) (hzs : z.cells.size = d.sz) (hsz : 0 < d.sz)
    {N : Nat} (hs : a.eval s = v) (hx : a.eval x = .slice (some ⟨N, 0, none⟩) 1 1) (hN : N = w.heap.size)
    (own : Own d e w base A v ys) (hnew : d.K w (fun k => A k ∧ some k ≠ v.ownBlock) y cs.toList)
    (h63 : ys.length + 1 ≤ maxLen) (hbytes : (ys.length + 1) * bytes ≤ 140737488355328) (hbase : base ≤ w.heap.size)
    (h : ∀ v' w', Own d e w' base A v' (ys ++ [y]) → Below base w w' → (∀ k, k < w.heap.size → some k ≠ v.ownBlock → w'.heap[k]? = w.heap[k]?) → wpList P ops Q rest (a.put o.dst v') w') : wpList P ops Q (o :: rest) a (w.alloc (.cells cs T)) := by
  subst hN
  have hext : Ext w (w.alloc (.cells cs T)) := Ext.alloc (Ext.rfl_ _) _
  refine wpList_push (w.alloc (.cells cs T)) d e t i z bytes base A v ys ⟨w.heap.size, 0, none⟩ 1 1 [y] cs.toList hgd s x ho ht hi hz hsize hby hzs hsz hs hx rfl (own.below hext) ?_ ?_ h63 hbytes (by simp; omega) ?_
  · exact Elems.single (d.keep (fun k _ hk => hext.block k hk) hext.size hnew)
  · intro j u hu
    have : (w.alloc (.cells cs T)).cell? ⟨w.heap.size, j, none⟩ = cs[j]? := by
      have hh : (w.alloc (.cells cs T)).heap[w.heap.size]? = some (.cells cs T) := heap_alloc_new w _
      unfold World.cell?
      simp only
      rw [hh]
      rfl
    have e : (⟨w.heap.size, 0, none⟩ : Addr).add j = ⟨w.heap.size, j, none⟩ := by
      unfold Addr.add; split
      · subst_vars; rfl
      · simp
    rw [e, this]
    simpa using hu
  · intro v' w' h1 h2 _
    refine h v' w' h1 ?_ ?_
    · exact ((hext.mono hbase).grown h2 (by simp; omega) (fun k hk => (own.block_lt hk).2))
    · intro k hk hne
      exact (h2.block k (by simp; omega) hne).trans (hext.block k hk)
end Go.Proofs.YtjipffbnndbchaaGreatDoor
