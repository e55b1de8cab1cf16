/- What a row's condition gives the walks; the wrap that keeps both the condition and the world's shape. -/
import Derived.Test.YtjipffbnndbchaaGreatDoorRows
import Derived.Test.YtjipffbnndbchaaGreatDoorGlob
import Derived.Stop.LaidErr
import Derived.Lib.LaidTab
import Derived.Lay
import Derived.MakeChecks
import Derived.HandedShaped
import Derived.RowKit
import Derived.ProofKit
import Derived.JoinedOf
import Derived.Shelf.Vars
namespace Go.Proofs.YtjipffbnndbchaaGreatDoor
open Go.RowKit Go.ChangeShapes Go.WideShapes
set_option maxRecDepth 100000

theorem handed_and_shaped {H : Type} {enc : TypeId × Value → H} {a : Assume} {C : Checked} {os : Os} {f : FuncId} {fn : Func} {s : ChangeSpec} {conds : List PathCond} {apart fresh handsOn again : Bool} {X : World → Array Value → Prop}
    (hX : ∀ (w w' : World) (args : Array Value), w.heap = w'.heap → X w args → X w' args)
    (own : ownKnob C.prog.godebug = none) (started : os.Started) (noInit : C.prog.inits.idxOf? f = none) (hfn : C.prog.funcs[f]? = some fn)
    (witness : ∃ (w : World) (tape : Tape) (i : Input), w.os = os ∧ (w.forCall tape i).Shaped C.prog ∧ i.vars = [] ∧ Input.okWide C.prog (w.forCall tape i) .any w.heap.size f i ∧
      ((s.pre enc C.prog fn conds apart (w.forCall tape i).memory i.args ∧ X (w.forCall tape i).memory i.args) ∧ sizedMet enc C.prog fn (OpenSpec.ofChange s) apart (w.forCall tape i).memory i.args) ∧ a.holds C.prog (lone (Frame.enter C.prog f i.args .normal) [] (w.forCall tape i)))
    (contract : ∀ (W : World) (base : Nat) (args : Array Value) (ds gs : List (DataW H)) (before : List MemPlace),
      (∀ (j : Nat) t v, fn.params[j]? = some t → args[j]? = some v → Value.okWide C.prog W .any base t v) →
      DataW.Whole enc C.prog fn.params.toList s.vars apart W args.toList ds gs before →
      conds.all (PathCond.test C.prog ⟨fn.params.toList, ds, s.plain.varTypes C.prog, gs⟩) = true →
      (DataW.weightsEach C.prog (fn.params.toList ++ s.plain.varTypes C.prog) (ds ++ gs)).all (· ≤ reachBytes) = true → X W args → W.ShapedOpen C.prog →
      a.holds C.prog (lone (Frame.enter C.prog f args .normal) [] W) →
      Calls C.prog f args W fun e W' => ∃ v, e = .returned v ∧ s.post enc C.prog fn apart fresh handsOn again W args v W') :
    ReturnsInHanded a C os f .any (fun w args => (s.pre enc C.prog fn conds apart w args ∧ X w args) ∧ sizedMet enc C.prog fn (OpenSpec.ofChange s) apart w args) (s.post enc C.prog fn apart fresh handsOn again) := by
  refine returnsInHanded_of_calls own started noInit witness ?_
  intro w tape i _ hsh _ hok hpre hholds
  obtain ⟨_, _, _, fn', hfn', _, _, _, _, hval⟩ := hok
  have e : fn' = fn := Option.some.inj (hfn'.symm.trans hfn)
  subst e
  obtain ⟨⟨⟨ds, gs, before, hw, hc⟩, hx⟩, hz⟩ := hpre
  have hw' := DataW.Whole.of_heap (w' := w.forCall tape i) (by rfl) hw
  refine (contract (w.forCall tape i) w.heap.size i.args ds gs before hval hw' hc (hz.weights hw) (hX _ _ _ (by rfl) hx) hsh hholds).mono fun e W' ⟨v, he, hp⟩ => ?_
  subst he
  exact ChangeSpec.post_blind hp

theorem own_ : ownKnob Tryz.prog.godebug = none := by kernel_rfl
theorem pow_eq : Rows.laid_internal_strconv_uint64pow10 (H := Unit) = Lib.tabData .u64 Lib.pow10Tab := by kernel_rfl
theorem star_ : "*errors.errorString" = "*" ++ "errors.errorString" := by decide
theorem nErr (u : TypeId) (h : Tryz.prog.typeName? 3 u = some "*errors.errorString") : u = 194 :=
  typeName_ptr_named (nm := "errors.errorString") (by rw [← star_]; kernel_rfl) (by kernel_rfl) (by decide) u (by rw [← star_]; exact h)
theorem glob_of {W : World} (hL : laidMetH Tryz.prog Rows.scriptParsesRow.laid W) (hsh : W.ShapedOpen Tryz.prog) : Glob W.heap.size W := by
  rw [MakeChecks.laidMetH_plain _ _ _ (by kernel_rfl)] at hL
  have h3 := (hL.tail).tail
  have h5 := (h3.tail).tail
  have h6 := h5.tail
  obtain ⟨m, hm⟩ := cell_of_shapedOpen_int (g := 0) (zero := #[.int .i64 0]) (t := 3) (k := .i64) hsh (of_decide_eq_true (by kernel_rfl)) (by kernel_rfl) rfl (by kernel_rfl) (by kernel_rfl) Tryz.underlying3
  have hT : Lib.TabIs Tryz.prog W "internal/strconv.uint64pow10" .u64 Lib.pow10Tab := Lib.tabIs_of_head (g := 1) (by kernel_rfl) (by kernel_rfl) Tryz.underlying166 Tryz.underlying29 (by kernel_rfl) (by kernel_rfl) (pow_eq ▸ h3)
  obtain ⟨a1, _, hr, _⟩ := laid_sentinel h5 (g := 5) (by kernel_rfl) (by kernel_rfl) Tryz.underlying60 nErr Tryz.underlying194 Tryz.underlying196 rfl rfl Tryz.underlying9 (by kernel_rfl) (by kernel_rfl)
  obtain ⟨a2, _, hs, _⟩ := laid_sentinel h6 (g := 4) (by kernel_rfl) (by kernel_rfl) Tryz.underlying60 nErr Tryz.underlying194 Tryz.underlying196 rfl rfl Tryz.underlying9 (by kernel_rfl) (by kernel_rfl)
  refine ⟨?_, Nat.le_refl _, ⟨m, hm⟩, Lib.tabBelow_of_tabIs hT, ⟨_, _, hs⟩, ⟨_, _, hr⟩⟩
  obtain ⟨ps, ⟨g', t', cs, fuel, p, q, hg', ht', hvar, _⟩, _⟩ := h3.tail
  have hg7 : Tryz.prog.globalNamed "unicode/utf8.acceptRanges" = some 7 := by kernel_rfl
  have : (W.heap[7]?).isSome = true := by
    unfold World.var? at hvar
    rw [hg7] at hvar
    simp only [Option.bind_some] at hvar
    cases h : W.heap[7]? with
    | none => rw [h] at hvar; simp at hvar
    | some o => rfl
  obtain ⟨o, ho⟩ := Option.isSome_iff_exists.1 this
  have := (Array.getElem?_eq_some_iff.1 ho).1
  omega
end Go.Proofs.YtjipffbnndbchaaGreatDoor
