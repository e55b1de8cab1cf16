/- The map of script.Linear: groups of calls by place; the map's own laws at its keys. -/
import Derived.Test.YtjipffbnndbchaaGreatDoorHistE
import Derived.Maps.RangeRun
import Derived.Laws.StructEq
import Derived.KernelRfl
namespace Go.Proofs.YtjipffbnndbchaaGreatDoor
open Go.RowKit
open Go.ChangeMaps (setBlock heap_setBlock_same heap_setBlock_other)
set_option maxRecDepth 100000

abbrev Pl := Int × Int
abbrev plV (p : Pl) : Value := .agg #[.int .i64 p.1, .int .u64 p.2]
abbrev Grp := Pl × List HCall
def samePl (p q : Pl) : Bool := p.1 == q.1 && p.2 == q.2
theorem samePl_iff {p q : Pl} : samePl p q = true ↔ p = q := by
  obtain ⟨a, b⟩ := p
  obtain ⟨c, d⟩ := q
  simp [samePl]
theorem pl_equal (p q : Pl) (w : World) : (Op.equal 85 (plV p) (plV q)).run Tryz.prog w = .ok (samePl p q) w := by
  obtain ⟨a, b⟩ := p
  obtain ⟨c, d⟩ := q
  rw [Op.equal, Op.maxDepth, run_equalIn_struct _ _ _ _ _ (by kernel_rfl) (by kernel_rfl)]
  simp [Program.fieldsOf, Tryz.underlying85, Op.eqFields, go_sem, samePl]
  split <;> simp_all
  split <;> simp_all
theorem pl_check (p : Pl) (w : World) : (Instr.checkKey false 10000 85 (plV p)).run Tryz.prog w = .ok () w := by kernel_rfl
theorem pl_stays (p : Pl) (w : World) : (Instr.keyThatStays (plV p) (plV p)).run Tryz.prog w = .ok (plV p) w := by
  simp [Instr.keyThatStays, Instr.sameBits]
theorem zeroRow (w : World) : (zeroValue 86).run Tryz.prog w = .ok (.slice none 0 0) w := by kernel_rfl
theorem mapT : Tryz.prog.underlying 83 = some (.map 85 86) := Tryz.underlying83

def gIdx (p : Pl) (gs : List Grp) : Nat := gs.findIdx (fun g => samePl p g.1)
def ensureG (p : Pl) (gs : List Grp) : List Grp := if gIdx p gs < gs.length then gs else gs ++ [(p, [])]
def addG (gs : List Grp) (p : Pl) (y : HCall) : List Grp := (ensureG p gs).modify (gIdx p gs) (fun g => (g.1, g.2 ++ [y]))
theorem gIdx_lt (p : Pl) (gs : List Grp) : gIdx p gs < (ensureG p gs).length := by
  unfold ensureG
  split
  · assumption
  · have : gIdx p gs ≤ gs.length := List.findIdx_le_length
    simp; omega
theorem ensureG_len (p : Pl) (gs : List Grp) : gs.length ≤ (ensureG p gs).length ∧ (ensureG p gs).length ≤ gs.length + 1 := by
  unfold ensureG
  split <;> simp
theorem ensureG_at (p : Pl) (gs : List Grp) : ∃ ys, (ensureG p gs)[gIdx p gs]? = some (p, ys) := by
  unfold ensureG
  split
  · rename_i h
    have h2 := List.findIdx_getElem (w := h)
    rw [samePl_iff] at h2
    refine ⟨(gs[gIdx p gs]).2, ?_⟩
    rw [List.getElem?_eq_getElem h]
    exact congrArg some (Prod.ext h2.symm rfl)
  · rename_i h
    have h1 : gIdx p gs ≤ gs.length := List.findIdx_le_length
    have : gIdx p gs = gs.length := by omega
    exact ⟨[], by rw [this]; simp⟩

theorem findAsking_spec (p : Pl) : ∀ (es : List MapEntry) (gs : List Grp) (i : Nat) (w : World), es.map (·.key) = gs.map (fun g => plV g.1) →
    (gIdx p gs < gs.length → ∃ e, es[gIdx p gs]? = some e ∧ (Instr.findAsking 85 (plV p) es i).run Tryz.prog w = .ok (some (i + gIdx p gs, e.val)) w) ∧
    (¬ gIdx p gs < gs.length → (Instr.findAsking 85 (plV p) es i).run Tryz.prog w = .ok none w)
  | [], [], i, w, _ => by simp [gIdx, Instr.findAsking]
  | [], _ :: _, _, _, h => by simp at h
  | _ :: _, [], _, _, h => by simp at h
  | e :: es, g :: gs, i, w, h => by
    simp only [List.map_cons, List.cons.injEq] at h
    have ih := findAsking_spec p es gs (i + 1) w h.2
    simp only [Instr.findAsking, Sem.run_bind, h.1, pl_equal, Result.andThen_ok, gIdx, List.findIdx_cons] at ih ⊢
    cases hs : samePl p g.1
    · simp only [cond_false, Bool.false_eq_true, if_false, List.length_cons]
      refine ⟨fun hl => ?_, fun hl => ih.2 (by omega)⟩
      obtain ⟨e2, h1, h2⟩ := ih.1 (by omega)
      refine ⟨e2, by simpa using h1, ?_⟩
      rw [h2]
      simp only [Nat.add_assoc, Nat.add_comm 1]
    · simp
theorem findKey_spec (p : Pl) (es : List MapEntry) (gs : List Grp) (w : World) (h : es.map (·.key) = gs.map (fun g => plV g.1)) :
    (gIdx p gs < gs.length → ∃ e, es[gIdx p gs]? = some e ∧ (Instr.findKey 85 (plV p) es).run Tryz.prog w = .ok (some (gIdx p gs, e.val)) w) ∧
    (¬ gIdx p gs < gs.length → (Instr.findKey 85 (plV p) es).run Tryz.prog w = .ok none w) := by
  have key : (Instr.findKey 85 (plV p) es).run Tryz.prog w = (Instr.findAsking 85 (plV p) es 0).run Tryz.prog w := by
    cases es with
    | nil => simp [Instr.findKey, run_underlying Tryz.underlying85, Instr.findNow, Instr.findAsking]
    | cons e es =>
      cases gs with
      | nil => simp at h
      | cons g gs =>
        simp only [List.map_cons, List.cons.injEq] at h
        simp [Instr.findKey, run_underlying Tryz.underlying85, Instr.findNow, Instr.sameNow, h.1]
  rw [key]
  have := findAsking_spec p es gs 0 w h
  simpa using this

/-- A map's entries that tell groups: their keys, their stamps. -/
structure MK (gs : List Grp) (es : Array MapEntry) : Prop where
  keys : es.toList.map (·.key) = gs.map (fun g => plV g.1)
  borns : es.toList.map (·.born) = List.range gs.length
theorem MK.size {gs : List Grp} {es : Array MapEntry} (h : MK gs es) : es.size = gs.length := by
  have := congrArg List.length h.keys
  simpa using this
theorem MK.born {gs : List Grp} {es : Array MapEntry} (h : MK gs es) {i : Nat} {e : MapEntry} (hi : es[i]? = some e) : e.born = i := by
  have h1 : (es.toList.map (·.born))[i]? = some e.born := by simp [hi]
  rw [h.borns] at h1
  obtain ⟨h2, h3⟩ := List.getElem?_eq_some_iff.1 h1
  simpa using h3.symm
theorem MK.key {gs : List Grp} {es : Array MapEntry} (h : MK gs es) {i : Nat} {e : MapEntry} {g : Grp} (hi : es[i]? = some e) (hg : gs[i]? = some g) : e.key = plV g.1 := by
  have h1 : (es.toList.map (·.key))[i]? = some e.key := by simp [hi]
  rw [h.keys] at h1
  simpa [hg] using h1.symm
def ensureE (p : Pl) (gs : List Grp) (es : Array MapEntry) : Array MapEntry := if gIdx p gs < gs.length then es else es.push { key := plV p, val := .slice none 0 0, born := gs.length }
theorem MK.ensure {gs : List Grp} {es : Array MapEntry} (h : MK gs es) (p : Pl) : MK (ensureG p gs) (ensureE p gs es) := by
  unfold ensureG ensureE
  split
  · exact h
  · constructor
    · simp [h.keys]
    · simp [h.borns, List.range_succ]
theorem modify_same {es : Array MapEntry} {j : Nat} {e : MapEntry} {k : Value} (h : es[j]? = some e) (hk : e.key = k) : es.modify j (fun x => { x with key := k }) = es := by
  apply Array.ext (by simp)
  intro i h1 h2
  rw [Array.getElem_modify]
  split
  · rename_i e1
    subst e1
    rw [Array.getElem?_eq_getElem h2] at h
    cases h
    subst hk
    rfl
  · rfl
/-- What stands at the place. -/
def valAt (es : Array MapEntry) (i : Nat) : Value := ((es[i]?).map (·.val)).getD .nilIface
theorem mapEntry_run {W : World} {m : Nat} {gs : List Grp} {es : Array MapEntry} (h : MK gs es) (p : Pl) (hb : W.heap[m]? = some (.map es gs.length)) :
    (Instr.mapEntry 83 (.map (some m)) (plV p)).run Tryz.prog W = .ok (.tuple #[valAt (ensureE p gs es) (gIdx p gs), .int .i64 (gIdx p gs : Nat)]) (setBlock W m (.map (ensureE p gs es) (ensureG p gs).length)) := by
  obtain ⟨f1, f2⟩ := findKey_spec p es.toList gs W h.keys
  by_cases hl : gIdx p gs < gs.length
  · obtain ⟨e, he, hr⟩ := f1 hl
    have he2 : es[gIdx p gs]? = some e := by simpa using he
    have hbn := h.born he2
    have hlt : gIdx p gs < es.size := by rw [h.size]; exact hl
    obtain ⟨ys, hys⟩ := ensureG_at p gs
    have hE : ensureG p gs = gs := by simp [ensureG, hl]
    rw [hE] at hys
    have hk := h.key he2 hys
    have hm := modify_same he2 hk
    simp only [Instr.mapEntry, Sem.run_bind, run_underlying mapT, Result.andThen_ok, MapKept.run_getObj_map hb, pl_check, hr, he2, Option.map_some, Option.getD_some, hk, pl_stays, hm, MapKept.run_setObj_map _ hb, Sem.run_pure, hbn, ensureE, ensureG, if_pos hl, valAt]
    rfl
  · have hr := f2 hl
    have h1 : gIdx p gs ≤ gs.length := List.findIdx_le_length
    have h2 : gIdx p gs = gs.length := by omega
    have h3 : gs.length = es.size := h.size.symm
    simp only [Instr.mapEntry, Sem.run_bind, run_underlying mapT, Result.andThen_ok, MapKept.run_getObj_map hb, pl_check, hr, zeroRow, MapKept.run_setObj_map _ hb, Sem.run_pure, ensureE, ensureG, valAt, h2]
    simp [h3, setBlock, goInt]
theorem entryStore_run {W : World} {m : Nat} {gs : List Grp} {es : Array MapEntry} (h : MK gs es) (j : Nat) (hj : j < gs.length) (v : Value) (hb : W.heap[m]? = some (.map es gs.length)) :
    (Instr.entryStore 83 (.map (some m)) (.int .i64 (j : Nat)) v).run Tryz.prog W = .ok () (setBlock W m (.map (es.modify j fun e => { e with val := v }) gs.length)) := by
  have hs := h.size
  have hf : es.findIdx? (fun e => ((e.born : Int) == (j : Int))) = some j := by
    rw [Array.findIdx?_eq_some_iff_getElem]
    refine ⟨by omega, ?_, ?_⟩
    · have := h.born (i := j) (e := es[j]'(by omega)) (by simp)
      simp [this]
    · intro k hk
      have := h.born (i := k) (e := es[k]'(by omega)) (by simp)
      simp [this]; omega
  simp only [Instr.entryStore, Sem.run_bind, MapKept.run_getObj_map hb, Result.andThen_ok]
  simp [go_sem, hf, MapKept.run_setObj_map _ hb, setBlock]
end Go.Proofs.YtjipffbnndbchaaGreatDoor
