/- The walk of Print. -/
import Derived.Test.YtjipffbnndbchaaGreatDoorCheck
import Derived.Test.YtjipffbnndbchaaGreatDoorBld
import Derived.Laws.Concat
namespace Go.Proofs.YtjipffbnndbchaaGreatDoor
open Go.RowKit
set_option maxRecDepth 100000

abbrev acCells (x : Ac) (dv fv : Value) : List Value := [.int .i64 x.kind, .int .i64 x.c, .int .i64 x.op, .int .i64 x.v, .int .i64 x.i, .int .i64 x.a, .int .i64 x.b, .int .u64 x.key, .int .u32 x.cookie, .bool x.gone, dv, .int .i64 x.names, fv]
def Kd.act : Kd Ac where
  sz := 13
  K := fun w A x cs => ∃ da dcap fa fcap, cs = acCells x (.slice da x.data.length dcap) (.slice fa x.files.length fcap) ∧ Row (Kd.int .u8) w A da dcap x.data ∧ Row Kd.pick w A fa fcap x.files
  len := by rintro w A x cs ⟨da, dcap, fa, fcap, rfl, _⟩; rfl
  one := by
    rintro w A x cs ⟨da, dcap, fa, fcap, rfl, _⟩ u hu
    simp only [acCells, List.mem_cons, List.not_mem_nil, or_false] at hu
    rcases hu with rfl | rfl | rfl | rfl | rfl | rfl | rfl | rfl | rfl | rfl | rfl | rfl | rfl <;> rfl
  mono := by
    rintro w A B x cs h ⟨da, dcap, fa, fcap, rfl, h1, h2⟩
    exact ⟨da, dcap, fa, fcap, rfl, h1.mono h, h2.mono h⟩
  keep := by
    rintro w w' A x cs h hs ⟨da, dcap, fa, fcap, rfl, h1, h2⟩
    exact ⟨da, dcap, fa, fcap, rfl, h1.keep h hs, h2.keep h hs⟩
theorem act_at {w : World} {A : Nat → Prop} {a : Option Addr} {cap : Nat} {l : List Ac} (h : Row Kd.act w A a cap l) (m : Nat) (hm : m < l.length) :
    ∃ b off da dcap fa fcap, a = some ⟨b, off, none⟩ ∧ Row (Kd.int .u8) w A da dcap l[m].data ∧ Row Kd.pick w A fa fcap l[m].files ∧
      ∀ j u, (acCells l[m] (.slice da l[m].data.length dcap) (.slice fa l[m].files.length fcap))[j]? = some u → w.cell? ⟨b, off + m * 13 + j, none⟩ = some u := by
  obtain ⟨b, off, rfl, _, _⟩ := h.some_of (by omega)
  obtain ⟨cs, ⟨da, dcap, fa, fcap, rfl, h1, h2⟩, hc⟩ := h.at_ m hm
  exact ⟨b, off, da, dcap, fa, fcap, rfl, h1, h2, hc⟩
/-- An act that has a line. -/
structure Lined (x : Ac) : Prop where
  inn : AcIn x
  gone : x.gone = false
  op : x.kind = 0 → opName x.op ≠ bs []
  small : Small (wordsOf x)
  len : (wordsOf x).length ≤ 2000000
  act : (actOf (wordsOf x)).1 = x
  ok : (actOf (wordsOf x)).2.2 = false ∧ (actOf (wordsOf x)).2.1 = []
def joinL (ws : List ByteArray) : List UInt8 := Lib.join (ws.map (·.data.toList)) [32]
/-- An act's line. -/
def lineL (x : Ac) : List UInt8 := joinL (wordsOf x) ++ [10]
theorem join_calls (v : Value) (ws : List ByteArray) {base : Nat} (w : World) (h : Own Kd.str 9 w base (fun _ => False) v ws) (hne : ws ≠ []) (hlen : ws.length ≤ 2000000) (hj : (joinL ws).length ≤ 100000000) :
    Calls Tryz.prog 25 #[v, .string ⟨#[32]⟩] w fun e w' => e = .returned (.string (bs (joinL ws))) ∧ Ext w w' := by
  obtain ⟨a, cap, rfl, hr⟩ := h.row
  obtain ⟨b, off, rfl, hb, _⟩ := hr.some_of (List.length_pos_iff.2 hne)
  refine Tryz.strings_Join b off cap ws ⟨#[32]⟩ w ?_ hb (by omega) hr.1 (by have : (Lib.join (ws.map (·.data.toList)) [32]).length ≤ 100000000 := hj; show (Lib.join (ws.map (·.data.toList)) [32]).length ≤ _; omega)
  intro j x hx
  obtain ⟨hj, rfl⟩ := List.getElem?_eq_some_iff.1 hx
  obtain ⟨c, hk, hc⟩ := hr.at_ j hj
  simp at hk
  subst hk
  have := hc 0 _ rfl
  simpa [Kd.str, Kd.scalar] using this

theorem flat_take_le (l : List Ac) (k : Nat) : ((l.take k).flatMap lineL).length ≤ (l.flatMap lineL).length := by
  conv => rhs; rw [← List.take_append_drop k l]
  rw [List.flatMap_append, List.length_append]
  omega
set_option maxHeartbeats 2000000 in
theorem print_ok {B : Nat} (a : Option Addr) (l : List Ac) (cap : Nat) (w : World) (hG : Glob B w) (hr : Row Kd.act w (fun _ => True) a cap l) (hl : ∀ x ∈ l, Lined x) (hn : l.length ≤ 4096) (ht : (l.flatMap lineL).length ≤ 3000000) :
    Calls Tryz.prog 18 #[.slice a l.length cap] w fun e w' => e = .returned (.tuple #[.string (bs (l.flatMap lineL)), .nilIface]) ∧ Ext w w' := by
  have HR := Lib.hid hr
  have HG := Lib.hid hG
  have HL := Lib.hid hl
  have hd : decide ((4096 : Int) < (l.length : Int)) = false := by rw [decide_eq_false_iff_not]; omega
  clear hr hG hl
  go_enter Tryz.func18, Tryz.ntmps18
  go_wp2_with fail
  go_loopw [14] (fun iv wr => ∃ m : Nat, m ≤ l.length ∧ iv = .int .i64 m ∧ Bld w wr w.heap.size ((l.take m).flatMap lineL) 3000000) (fun iv _ => l.length - (intOf iv).toNat)
  case atStart => exact ⟨0, by omega, rfl, (Bld.fresh w).upto _ (by simp)⟩
  case round =>
    obtain ⟨m, hm, rfl, hb1⟩ := hrel
    have HB := Lib.hid hb1
    have HE1 := Lib.hid hb1.ext
    clear hb1
    by_cases hlt : m < l.length
    · obtain ⟨b, off, da, dcap, fa, fcap, rfl, hrd, hrf, hc⟩ := act_at (HR.out.below HE1.out) m hlt
      have hx := HL.out l[m] (List.getElem_mem hlt)
      have hsnoc : (l.take (m + 1)).flatMap lineL = (l.take m).flatMap lineL ++ lineL l[m] := by rw [List.take_add_one, List.getElem?_eq_getElem hlt, List.flatMap_append]; simp
      have hle := flat_take_le l (m + 1)
      generalize l[m] = x at *
      have hjl : (joinL (wordsOf x)).length + 1 ≤ 3000000 := by
        rw [hsnoc, List.length_append] at hle
        simp only [lineL, List.length_append, List.length_cons, List.length_nil] at hle
        omega
      have c0 := hc 0 _ rfl
      have c1 := hc 1 _ rfl
      have c2 := hc 2 _ rfl
      have c3 := hc 3 _ rfl
      have c4 := hc 4 _ rfl
      have c5 := hc 5 _ rfl
      have c6 := hc 6 _ rfl
      have c7 := hc 7 _ rfl
      have c8 := hc 8 _ rfl
      have c9 := hc 9 _ rfl
      have c10 := hc 10 _ rfl
      have c11 := hc 11 _ rfl
      have c12 := hc 12 _ rfl
      simp only [Nat.add_zero] at c0
      have hcat : ∀ w0, (Op.stringOp .add (bs (joinL (wordsOf x))) ⟨#[10]⟩).run Tryz.prog w0 = .ok (.string (bs (lineL x))) w0 := fun w0 => (run_string_add_sum w0 _ _ (by show (joinL (wordsOf x)).length + 1 ≤ _; omega)).trans (by rw [show (⟨#[10]⟩ : ByteArray) = bs [10] from rfl, bs_append]; rfl)
      have HAR := Lib.hid (show ActRow wr (fun _ => True) (acVal x.kind x.c x.op x.v x.i x.a x.b x.key x.cookie x.gone (.slice da x.data.length dcap) x.names (.slice fa x.files.length fcap)) x from ⟨da, dcap, fa, fcap, rfl, hrd, hrf⟩)
      have HX := Lib.hid hx
      have HS := Lib.hid hsnoc
      have HLE := Lib.hid hle
      have HJL := Lib.hid hjl
      clear hrd hrf hx hsnoc hle hc hjl
      have hEA : Ext wr (wr.alloc (.cells #[Value.int IntKind.i64 x.kind, Value.int IntKind.i64 x.c, Value.int IntKind.i64 x.op, Value.int IntKind.i64 x.v, Value.int IntKind.i64 x.i, Value.int IntKind.i64 x.a, Value.int IntKind.i64 x.b, Value.int IntKind.u64 x.key, Value.int IntKind.u32 x.cookie, Value.bool x.gone, Value.slice da x.data.length dcap, Value.int IntKind.i64 x.names, Value.slice fa x.files.length fcap] 56)) := Ext.alloc (Ext.rfl_ _) _
      have HAR1 := Lib.hid (HAR.out.below hEA)
      have HX1 := Lib.hid (HE1.out.trans hEA)
      have HB1 := Lib.hid (HB.out.more hEA)
      have HN1 := Lib.hid (heap_alloc_new wr (.cells #[Value.int IntKind.i64 x.kind, Value.int IntKind.i64 x.c, Value.int IntKind.i64 x.op, Value.int IntKind.i64 x.v, Value.int IntKind.i64 x.i, Value.int IntKind.i64 x.a, Value.int IntKind.i64 x.b, Value.int IntKind.u64 x.key, Value.int IntKind.u32 x.cookie, Value.bool x.gone, Value.slice da x.data.length dcap, Value.int IntKind.i64 x.names, Value.slice fa x.files.length fcap] 56))
      clear hEA
      go_wp2_with (first | (go_at_call 16; go_must (with_reducible refine (check_ok _ x _ (HG.out.ext HX1.out) HX.out.inn HAR1.out HX.out.gone HX.out.op HX.out.small HX.out.len HX.out.act HX.out.ok).mono ?_); rintro e w2 ⟨rfl, he⟩; have HAR2 := Lib.hid (HAR1.out.below he); have HX2 := Lib.hid (HX1.out.trans he); have HB2 := Lib.hid (HB1.out.more he); obtain ⟨d0, d1, d2, d3, d4, d5, d6, d7, d8, d9, d10, d11, d12, df⟩ := act_cells ((he.block _ (Array.getElem?_eq_some_iff.1 HN1.out).1).trans HN1.out); clear he) | (go_at_call 38; go_must (with_reducible refine (words_calls _ x _ (HG.out.ext HX2.out) HX.out.inn HAR2.out).mono ?_); rintro e w3 ⟨wv, rfl, hown, he⟩; have HOW := Lib.hid hown; have HX3 := Lib.hid (HX2.out.trans he); have HB3 := Lib.hid (HB2.out.more he); clear hown he) | (go_at_call 25; go_must (with_reducible refine (join_calls _ _ _ HOW.out (by simp [wordsOf]) HX.out.len (by have := HJL.out; omega)).mono ?_); rintro e w4 ⟨rfl, he⟩; have HX4 := Lib.hid (HX3.out.trans he); have HB4 := Lib.hid (HB3.out.more he); clear he) | (go_at_call 24; go_must (with_reducible refine (bld_str HB4.out (bs (lineL x)) 3000000 (by have h1 := HJL.out; rw [bs_size]; simp only [lineL, List.length_append, List.length_cons, List.length_nil]; omega) (by decide)).mono ?_); rintro e w5 ⟨rfl, hb⟩; have HB5 := Lib.hid hb; clear hb))
      go_roundw
      case rel =>
        refine ⟨m + 1, by omega, by go_num, ?_⟩
        rw [HS.out]
        exact HB5.out.upto 3000000 (by rw [bs_toList, ← HS.out]; exact Nat.le_trans HLE.out ht)
      case measure => simp [intOf]; omega
    · have hml : m = l.length := by omega
      have HBF := Lib.hid (show Bld w wr w.heap.size (l.flatMap lineL) 3000000 from by have := HB.out; rw [hml, List.take_length] at this; exact this)
      clear hml
      go_wp2_with (go_at_call 27; go_must (with_reducible refine (bld_string HBF.out).mono ?_); rintro e w2 ⟨rfl, he⟩; have HE2 := Lib.hid he; clear he)
      exact bodyPost_ret (v := .tuple #[.string (bs (l.flatMap lineL)), .nilIface]) (by simp [results, Tryz.results18, go_sem]) rfl ⟨rfl, HE2.out⟩
end Go.Proofs.YtjipffbnndbchaaGreatDoor
