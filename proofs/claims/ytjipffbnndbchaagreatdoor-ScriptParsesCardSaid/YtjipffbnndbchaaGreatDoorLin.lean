/- The walk of script.Linear. -/
import Derived.Test.YtjipffbnndbchaaGreatDoorMapL
import Derived.Deep.RegionHeld3
import Derived.Maps.RangeWalk
namespace Go.Proofs.YtjipffbnndbchaaGreatDoor
open Go.RowKit
open Go.ChangeMaps (setBlock heap_setBlock_same heap_setBlock_other)
set_option maxRecDepth 100000

/-- A call of a world's history. -/
structure WC where
  c : Int
  v : Int
  op : Int
  key : Int
  ck : Int
  gone : Bool
  data : List UInt8
  bg : Int
  en : Int
  cd : Int
  gkey : Int
  gck : Int
  ggone : Bool
  got : List UInt8
abbrev wcCells (x : WC) (dt gt : Value) : List Value :=
  [.int .i64 x.c, .int .i64 x.v, .int .i64 x.op, .int .u64 x.key, .int .u32 x.ck, .bool x.gone, dt, .int .i64 x.bg, .int .i64 x.en, .int .i64 x.cd, .int .u64 x.gkey, .int .u32 x.gck, .bool x.ggone, gt]
def WC.h (x : WC) : HCall := ⟨x.op, x.ck, x.data, x.bg, x.en, x.cd, x.got⟩
def WC.p (x : WC) : Pl := (x.v, x.key)
def Kd.wc : Kd WC where
  sz := 14
  K := fun w A x cs => ∃ da dcap ga gcap, cs = wcCells x (.slice da x.data.length dcap) (.slice ga x.got.length gcap) ∧ (InK .i64 x.op ∧ InK .u32 x.ck ∧ InK .i64 x.bg ∧ InK .i64 x.en ∧ InK .i64 x.cd) ∧ Row Kd.u8 w A da dcap x.data ∧ Row Kd.u8 w A ga gcap x.got
  len := by rintro w A x cs ⟨da, dcap, fa, fcap, rfl, _⟩; rfl
  one := by
    rintro w A x cs ⟨da, dcap, fa, fcap, rfl, _⟩ u hu
    simp only [wcCells, List.mem_cons, List.not_mem_nil, or_false] at hu
    rcases hu with rfl | rfl | rfl | rfl | rfl | rfl | rfl | rfl | rfl | rfl | rfl | rfl | rfl | rfl <;> rfl
  mono := by
    rintro w A B x cs h ⟨da, dcap, fa, fcap, rfl, h0, h1, h2⟩
    exact ⟨da, dcap, fa, fcap, rfl, h0, h1.mono h, h2.mono h⟩
  keep := by
    rintro w w' A x cs h hs ⟨da, dcap, fa, fcap, rfl, h0, h1, h2⟩
    exact ⟨da, dcap, fa, fcap, rfl, h0, h1.keep h hs, h2.keep h hs⟩
def groupsOf (l : List WC) : List Grp := l.foldl (fun gs x => addG gs x.p x.h) []
/-- What script.Linear tells. -/
def sLinear (l : List WC) : Bool := (groupsOf l).all (fun g => hLinear g.2)
theorem groups_snoc (l : List WC) (k : Nat) (h : k < l.length) : groupsOf (l.take (k + 1)) = addG (groupsOf (l.take k)) l[k].p l[k].h := by
  rw [groupsOf, List.take_add_one, List.getElem?_eq_getElem h]
  simp only [Option.toList_some, List.foldl_append, List.foldl_cons, List.foldl_nil]
  rfl

/-- What a map's entries own. -/
structure MO (w : World) (base : Nat) (A : Nat → Prop) (gs : List Grp) (es : Array MapEntry) : Prop where
  own : ∀ (i : Nat) (g : Grp) (e : MapEntry), gs[i]? = some g → es[i]? = some e → Own kHCall 87 w base A e.val g.2
  apart : ∀ (i j : Nat) (e f : MapEntry), i ≠ j → es[i]? = some e → es[j]? = some f → e.val.ownBlock = none ∨ e.val.ownBlock ≠ f.val.ownBlock

theorem heap3 (W : World) (o1 o2 o3 : Obj) : (((W.alloc o1).alloc o2).alloc o3).heap.size = W.heap.size + 3 ∧ (((W.alloc o1).alloc o2).alloc o3).heap[W.heap.size + 2]? = some o3 ∧ Ext W (((W.alloc o1).alloc o2).alloc o3) := by
  refine ⟨by simp, ?_, ((Ext.rfl_ W).alloc o1 |>.alloc o2).alloc o3⟩
  have := heap_alloc_new ((W.alloc o1).alloc o2) o3
  simpa only [World.alloc, Array.size_push] using this
theorem valAt_of {es : Array MapEntry} {i : Nat} {e : MapEntry} (h : es[i]? = some e) : valAt es i = e.val := by simp [valAt, h]

/-- Behind the look for the place: the map holds it; its row is owned. -/
structure Mid (N : Nat) (wr : World) (gs : List Grp) (es : Array MapEntry) (p : Pl) (f : Obj → Obj → Obj → World) (es1 : Array MapEntry) (v : Value) (ys : List HCall) (j n1 : Nat) : Prop where
  hj : j = gIdx p gs
  hn1 : n1 = (ensureG p gs).length
  run : ∀ o1 o2 o3, (Instr.mapEntry 83 (.map (some N)) (plV p)).run Tryz.prog (((wr.alloc o1).alloc o2).alloc o3) = .ok (.tuple #[v, .int .i64 (j : Nat)]) (f o1 o2 o3)
  size : ∀ o1 o2 o3, (f o1 o2 o3).heap.size = wr.heap.size + 3
  only : ∀ o1 o2 o3, Only (· = N) wr (f o1 o2 o3)
  map : ∀ o1 o2 o3, (f o1 o2 o3).heap[N]? = some (.map es1 n1)
  third : ∀ o1 o2 o3, (f o1 o2 o3).heap[wr.heap.size + 2]? = some o3
  ks : MK (ensureG p gs) es1
  at_ : (ensureG p gs)[j]? = some (p, ys)
  ent : ∃ e, es1[j]? = some e ∧ e.val = v
  own : ∀ o1 o2 o3, Own kHCall 87 (f o1 o2 o3) (N + 1) (fun k => k < N) v ys
  mo : ∀ o1 o2 o3, MO (f o1 o2 o3) (N + 1) (fun k => k < N) (ensureG p gs) es1
theorem MO.ensure {W : World} {base : Nat} {A : Nat → Prop} {gs : List Grp} {es : Array MapEntry} (h : MO W base A gs es) (hk : MK gs es) (p : Pl) : MO W base A (ensureG p gs) (ensureE p gs es) := by
  unfold ensureG ensureE
  split
  · exact h
  · have hs := hk.size
    have new : ∀ (i : Nat) (e : MapEntry), (es.push { key := plV p, val := .slice none 0 0, born := gs.length })[i]? = some e → es[i]? = some e ∨ (i = gs.length ∧ e.val = .slice none 0 0) := by
      intro i e he
      rw [Array.getElem?_push] at he
      split at he
      · right; cases he; exact ⟨by omega, rfl⟩
      · left; exact he
    refine ⟨fun i g e hg he => ?_, fun i j e f hij he hf => ?_⟩
    · rcases new i e he with h1 | ⟨rfl, h1⟩
      · refine h.own i g e ?_ h1
        have : i < es.size := (Array.getElem?_eq_some_iff.1 h1).1
        rwa [List.getElem?_append_left (by omega)] at hg
      · rw [h1]
        simp at hg
        subst hg
        exact Own.nil_ _ _ _
    · rcases new i e he with h1 | ⟨rfl, h1⟩
      · rcases new j f hf with h2 | ⟨rfl, h2⟩
        · exact h.apart i j e f hij h1 h2
        · rw [h2]
          cases hv : e.val.ownBlock with
          | none => left; rfl
          | some k => right; simp [Value.ownBlock]
      · left; rw [h1]; rfl
theorem MO.keep {W W' : World} {base : Nat} {A : Nat → Prop} {gs : List Grp} {es : Array MapEntry} (h : MO W base A gs es) (hk : ∀ k, (A k ∨ base ≤ k) → k < W.heap.size → W'.heap[k]? = W.heap[k]?) (hz : W.heap.size ≤ W'.heap.size) : MO W' base A gs es :=
  ⟨fun i g e hg he => by
    have ho := h.own i g e hg he
    exact ho.keep (fun k hk2 hlt => hk k (hk2.imp id fun e2 => (ho.block_lt e2.symm).2) hlt) hz, h.apart⟩
theorem lin_mid {w wr : World} {gs : List Grp} {es : Array MapEntry} (p : Pl) (hw : w.heap.size < wr.heap.size) (hh : wr.heap[w.heap.size]? = some (.map es gs.length)) (hk : MK gs es) (ho : MO wr (w.heap.size + 1) (fun k => k < w.heap.size) gs es) :
    ∃ f es1 v ys j n1, Mid w.heap.size wr gs es p f es1 v ys j n1 := by
  obtain ⟨ys, hys⟩ := ensureG_at p gs
  have hlt := gIdx_lt p gs
  have hk1 := hk.ensure p
  have he : ∃ e, (ensureE p gs es)[gIdx p gs]? = some e := by
    have : gIdx p gs < (ensureE p gs es).size := by rw [hk1.size]; exact hlt
    exact ⟨_, Array.getElem?_eq_getElem this⟩
  obtain ⟨e, he⟩ := he
  have hb0 : ∀ o1 o2 o3, (((wr.alloc o1).alloc o2).alloc o3).heap[w.heap.size]? = some (.map es gs.length) := fun o1 o2 o3 => ((heap3 wr o1 o2 o3).2.2.block _ hw).trans hh
  have hother : ∀ o1 o2 o3 k, k ≠ w.heap.size → (setBlock (((wr.alloc o1).alloc o2).alloc o3) w.heap.size (.map (ensureE p gs es) (ensureG p gs).length)).heap[k]? = (((wr.alloc o1).alloc o2).alloc o3).heap[k]? := fun o1 o2 o3 k hk => heap_setBlock_other (hb0 o1 o2 o3) _ hk
  have hsz : ∀ o1 o2 o3, (setBlock (((wr.alloc o1).alloc o2).alloc o3) w.heap.size (.map (ensureE p gs es) (ensureG p gs).length)).heap.size = wr.heap.size + 3 := fun o1 o2 o3 => by simp [setBlock]
  have hmo : ∀ o1 o2 o3, MO (setBlock (((wr.alloc o1).alloc o2).alloc o3) w.heap.size (.map (ensureE p gs es) (ensureG p gs).length)) (w.heap.size + 1) (fun k => k < w.heap.size) (ensureG p gs) (ensureE p gs es) := fun o1 o2 o3 =>
    (ho.ensure hk p).keep (fun k hk2 hlt2 => (hother o1 o2 o3 k (by omega)).trans ((heap3 wr o1 o2 o3).2.2.block k hlt2)) (by rw [hsz]; omega)
  refine ⟨fun o1 o2 o3 => setBlock (((wr.alloc o1).alloc o2).alloc o3) w.heap.size (.map (ensureE p gs es) (ensureG p gs).length), ensureE p gs es, e.val, ys, gIdx p gs, (ensureG p gs).length, rfl, rfl, fun o1 o2 o3 => ?_, hsz, fun o1 o2 o3 => ?_, fun o1 o2 o3 => heap_setBlock_same (hb0 o1 o2 o3) _, fun o1 o2 o3 => ?_, hk1, hys, ⟨e, he, rfl⟩, fun o1 o2 o3 => ?_, hmo⟩
  · rw [mapEntry_run hk p (hb0 o1 o2 o3), valAt_of he]
  · refine ⟨rfl, rfl, rfl, by rw [hsz]; omega, fun k hk2 hne => (hother o1 o2 o3 k hne).trans ((heap3 wr o1 o2 o3).2.2.block k hk2)⟩
  · exact (hother o1 o2 o3 _ (by omega)).trans (heap3 wr o1 o2 o3).2.1
  · exact (hmo o1 o2 o3).own _ _ _ hys he
/-- Behind the store: the call stands in its group. -/
theorem lin_end {w wr w8 : World} {gs : List Grp} {es es1 : Array MapEntry} {p : Pl} {f : Obj → Obj → Obj → World} {v v' : Value} {ys : List HCall} {j n1 : Nat} {y : HCall} (hE : Ext w wr) (hw : w.heap.size < wr.heap.size) (hM : Mid w.heap.size wr gs es p f es1 v ys j n1) (o1 o2 o3 : Obj)
    (hown : Own kHCall 87 w8 (w.heap.size + 1) (fun k => k < w.heap.size) v' (ys ++ [y])) (hg : (f o1 o2 o3).grownBy w8 v.ownBlock) (hb : v'.ownBlock = v.ownBlock ∨ v'.ownBlock = some (f o1 o2 o3).heap.size) :
    ∃ w9 es9, (Instr.entryStore 83 (.map (some w.heap.size)) (.int .i64 (j : Nat)) v').run Tryz.prog w8 = .ok () w9 ∧ Ext w w9 ∧ w9.heap[w.heap.size]? = some (.map es9 (addG gs p y).length) ∧ MK (addG gs p y) es9 ∧ MO w9 (w.heap.size + 1) (fun k => k < w.heap.size) (addG gs p y) es9 := by
  have hN : w.heap.size < (f o1 o2 o3).heap.size := by rw [hM.size]; omega
  have hvN : ∀ k, v.ownBlock = some k → w.heap.size + 1 ≤ k := fun k hk => ((hM.own o1 o2 o3).block_lt hk).2
  have hvN' : ∀ k, v'.ownBlock = some k → w.heap.size + 1 ≤ k := fun k hk => (hown.block_lt hk).2
  have hmap8 : w8.heap[w.heap.size]? = some (.map es1 (ensureG p gs).length) := by
    rw [← hM.hn1, ← hM.map o1 o2 o3]
    exact hg.block _ hN (fun e => by have := hvN _ e.symm; omega)
  have hjlt : j < (ensureG p gs).length := by rw [hM.hj]; exact gIdx_lt p gs
  have hlen : (addG gs p y).length = (ensureG p gs).length := by simp [addG]
  have hother : ∀ k, k ≠ w.heap.size → (setBlock w8 w.heap.size (.map (es1.modify j fun e => { e with val := v' }) (ensureG p gs).length)).heap[k]? = w8.heap[k]? := fun k hk => heap_setBlock_other hmap8 _ hk
  have hsz : (setBlock w8 w.heap.size (.map (es1.modify j fun e => { e with val := v' }) (ensureG p gs).length)).heap.size = w8.heap.size := by simp [setBlock]
  obtain ⟨e0, he0, hv0⟩ := hM.ent
  have hmod : ∀ i, (es1.modify j fun e => { e with val := v' })[i]? = if j = i then (es1[i]?).map (fun e => { e with val := v' }) else es1[i]? := fun i => by rw [Array.getElem?_modify]
  refine ⟨_, es1.modify j fun e => { e with val := v' }, entryStore_run hM.ks j hjlt v' hmap8, ?_, ?_, ?_, ?_⟩
  · have h1 : Only (· = w.heap.size) w wr := Only.of_ext hE
    have h2 := h1.trans (hM.only o1 o2 o3)
    refine ⟨hg.os.trans h2.os, hg.tape.trans h2.tape, hg.output.trans h2.output, ?_, fun k hk => ?_⟩
    · rw [hsz]; exact Nat.le_trans h2.size hg.size
    · exact (hother k (by omega)).trans ((hg.block k (by omega) (fun e => by have := hvN _ e.symm; omega)).trans (h2.block k hk (by omega)))
  · rw [hlen]; exact heap_setBlock_same hmap8 _
  · have hkeep : ∀ {β : Type} (F : MapEntry → β), (∀ e : MapEntry, F { e with val := v' } = F e) → (es1.modify j fun e => { e with val := v' }).toList.map F = es1.toList.map F := by
      intro β F hF
      apply List.ext_getElem?
      intro i
      simp only [List.getElem?_map, Array.getElem?_toList, hmod]
      split
      · cases es1[i]? <;> simp [hF]
      · rfl
    constructor
    · rw [hkeep (·.key) (fun _ => rfl), hM.ks.keys]
      apply List.ext_getElem?
      intro i
      simp only [addG, List.getElem?_map, List.getElem?_modify]
      split
      · cases (ensureG p gs)[i]? <;> simp
      · simp
    · rw [hkeep (·.born) (fun _ => rfl), hM.ks.borns, hlen]
  · have hjv : ∀ i e, (es1.modify j fun e => { e with val := v' })[i]? = some e → (i = j ∧ e.val = v') ∨ (i ≠ j ∧ es1[i]? = some e) := by
      intro i e he
      rw [hmod] at he
      split at he
      · rename_i hji
        left
        cases h1 : es1[i]? with
        | none => simp [h1] at he
        | some e1 => simp [h1] at he; exact ⟨hji.symm, by rw [← he]⟩
      · rename_i hji
        exact .inr ⟨fun e => hji e.symm, he⟩
    have hvs : ∀ i e, i ≠ j → es1[i]? = some e → e.val.ownBlock = none ∨ (e.val.ownBlock ≠ v.ownBlock ∧ e.val.ownBlock ≠ v'.ownBlock) := by
      intro i e hij he
      have hlt : i < (ensureG p gs).length := by
        have := (Array.getElem?_eq_some_iff.1 he).1
        rw [hM.ks.size] at this; exact this
      have hown1 := (hM.mo o1 o2 o3).own i _ e (List.getElem?_eq_getElem hlt) he
      cases hv : e.val.ownBlock with
      | none => left; rfl
      | some k =>
        right
        have h1 := (hM.mo o1 o2 o3).apart i j e e0 hij he he0
        rw [hv, hv0] at h1
        have h2 : (some k : Option Nat) ≠ v.ownBlock := h1.resolve_left (by simp)
        refine ⟨h2, fun e => ?_⟩
        rcases hb with hb | hb
        · exact h2 (e.trans hb)
        · have := (hown1.block_lt hv).1
          rw [hb] at e
          cases e
          omega
    refine ⟨fun i g e hgi hei => ?_, fun i i2 e e2 hne h1 h2 => ?_⟩
    · rw [addG, List.getElem?_modify] at hgi
      rcases hjv i e hei with ⟨rfl, h1⟩ | ⟨h1, h2⟩
      · rw [← hM.hj, hM.at_] at hgi
        simp at hgi
        subst hgi
        rw [h1]
        exact hown.keep (fun k hk hlt => hother k (by
          rcases hk with hk | hk
          · exact Nat.ne_of_lt hk
          · have := hvN' k hk.symm; omega)) (by rw [hsz]; exact Nat.le_refl _)
      · have h1' : ¬ j = i := fun e => h1 e.symm
        rw [← hM.hj] at hgi
        simp only [h1', if_false, id_map'] at hgi
        have ho := (hM.mo o1 o2 o3).own i g e hgi h2
        refine ho.keep (fun k hk hlt => ?_) (by rw [hsz]; exact hg.size)
        rcases hk with hk | hk
        · exact (hother k (Nat.ne_of_lt hk)).trans (hg.block k hlt (fun e => by have := hvN k e.symm; omega))
        · have := (ho.block_lt hk.symm).2
          refine (hother k (by omega)).trans (hg.block k hlt ?_)
          rcases hvs i e h1 h2 with h3 | h3
          · rw [h3] at hk; cases hk
          · rw [hk]; exact h3.1
    · rcases hjv i e h1 with ⟨rfl, h3⟩ | ⟨h3, h4⟩
      · rcases hjv i2 e2 h2 with ⟨h5, _⟩ | ⟨h5, h6⟩
        · exact absurd h5.symm hne
        · rw [h3]
          rcases hvs i2 e2 h5 h6 with h7 | h7
          · rw [h7]
            cases hv : v'.ownBlock with
            | none => left; rfl
            | some k => right; simp
          · exact .inr fun e => h7.2 e.symm
      · rcases hjv i2 e2 h2 with ⟨rfl, h5⟩ | ⟨h5, h6⟩
        · rw [h5]
          exact (hvs i e h3 h4).imp id fun h => h.2
        · exact (hM.mo o1 o2 o3).apart i i2 e e2 hne h4 h6
theorem addG_len {gs : List Grp} {n : Nat} (h : ∀ g ∈ gs, g.2.length ≤ n) (p : Pl) : ∀ g ∈ ensureG p gs, g.2.length ≤ n := by
  unfold ensureG
  split
  · exact h
  · intro g hg
    rcases List.mem_append.1 hg with hg | hg
    · exact h g hg
    · simp at hg; subst hg; simp
theorem groups_len (l : List WC) : ∀ g ∈ groupsOf l, g.2.length ≤ l.length := by
  have key : ∀ (l : List WC) (gs : List Grp) (n : Nat), (∀ g ∈ gs, g.2.length ≤ n) → ∀ g ∈ l.foldl (fun gs x => addG gs x.p x.h) gs, g.2.length ≤ n + l.length := by
    intro l
    induction l with
    | nil => intro gs n h; simpa using h
    | cons x l ih =>
      intro gs n h g hg
      have := ih (addG gs x.p x.h) (n + 1) (by
        intro g hg
        obtain ⟨i, hi, rfl⟩ := List.getElem_of_mem hg
        simp only [addG, List.getElem_modify] at hi ⊢
        have h2 : i < (ensureG x.p gs).length := by simpa [addG] using hi
        have h1 := addG_len h x.p _ (List.getElem_mem h2)
        split
        · simp only [List.length_append, List.length_cons, List.length_nil]; omega
        · omega) g hg
      simp only [List.length_cons]
      omega
  have := key l [] 0 (by simp)
  simpa [groupsOf] using this
theorem infoHC : (Tryz.prog.info? 87).map (fun i => (i.zero, i.size, i.bytes)) = some (some (.agg #[.int .i64 0, .int .u32 0, .slice none 0 0, .int .i64 0, .int .i64 0, .int .i64 0, .slice none 0 0]), 7, 88) := by kernel_rfl
end Go.Proofs.YtjipffbnndbchaaGreatDoor
