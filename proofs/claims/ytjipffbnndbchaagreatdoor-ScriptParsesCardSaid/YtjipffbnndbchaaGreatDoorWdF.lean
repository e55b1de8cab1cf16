/- The walks of script: the words of an act. Printed by gen_words.py. -/
import Derived.Test.YtjipffbnndbchaaGreatDoorWdB
import Derived.Deep.RegionHeld3
import Derived.Deep.RegionLaw
import Derived.IntWalk
import Derived.Laws.Concat
import Derived.Lib.ItoaLen
namespace Go.Proofs.YtjipffbnndbchaaGreatDoor
open Go.RowKit
set_option maxRecDepth 100000

set_option maxHeartbeats 2000000 in
theorem words_9 {B : Nat} (c o v i a b key ck : Int) (g : Bool) (dv : Value) (nm : Int) (fv : Value) (w : World) (hG : Glob B w) (ha : InK .i64 a) (hnm : InK .i64 nm) (fa : Option Addr) (fcap : Nat) (ps : List Pk) (hfv : fv = .slice fa ps.length fcap) (hf : Row Kd.pick w (fun _ => True) fa fcap ps) (hpl : ps.length ≤ 2000000) :
    Calls Tryz.prog 38 #[acVal 9 c o v i a b key ck g dv nm fv] w fun e w' => WordsR w (bs [99, 114, 97, 115, 104] :: [bs (Lib.itoa a), bs (Lib.itoa nm)] ++ ps.map pickWord) e w' := by
  subst hfv
  have HF := Lib.hid hf
  clear hf
  have Ha := Lib.hid ha
  have Hnm := Lib.hid hnm
  clear ha hnm
  go_enter Tryz.func38, Tryz.ntmps38
  go_wp2_with fail
  have HN := Lib.hid (heap_alloc_new w (Obj.cells #[Value.int IntKind.i64 9, Value.int IntKind.i64 c, Value.int IntKind.i64 o, Value.int IntKind.i64 v, Value.int IntKind.i64 i, Value.int IntKind.i64 a, Value.int IntKind.i64 b, Value.int IntKind.u64 key, Value.int IntKind.u32 ck, Value.bool g, dv, Value.int IntKind.i64 nm, .slice fa ps.length fcap] 56))
  go_region_law ((go_simp; go_at_call 36; (with_reducible refine (names_calls2 _).mono ?_); rintro e wn ⟨rfl, rfl⟩))
  all_goals
    have HST := Lib.hid (WSt.first hG #[Value.int IntKind.i64 9, Value.int IntKind.i64 c, Value.int IntKind.i64 o, Value.int IntKind.i64 v, Value.int IntKind.i64 i, Value.int IntKind.i64 a, Value.int IntKind.i64 b, Value.int IntKind.u64 key, Value.int IntKind.u32 ck, Value.bool g, dv, Value.int IntKind.i64 nm, .slice fa ps.length fcap] nameArr (bs [99, 114, 97, 115, 104]))
    generalize ((((w.alloc _).alloc _).alloc _).drew) = W at *
    obtain ⟨c0, c1, c2, c3, c4, c5, c6, c7, c8, c9, c10, c11, c12, cf⟩ := act_cells HST.out.blk
    have HSD := Lib.hid (HST.out.more (Ext.drew (Ext.rfl_ _)))
    go_wp2_with fail
    go_region_held3 (fun W => W.cell? ⟨w.heap.size, 5, none⟩ = some (.int .i64 a) ∧ W.cell? ⟨w.heap.size, 11, none⟩ = some (.int .i64 nm))
      (first | exact ⟨c5, c11⟩ | go_keep)
      ((first | (refine wst_step HST.out [bs (Lib.itoa a), bs (Lib.itoa nm)] rfl _ _ rfl rfl rfl rfl rfl rfl (by simp) ?_; intro v' w5 hst _; have HST := Lib.hid hst; clear hst; obtain ⟨c0, c1, c2, c3, c4, c5, c6, c7, c8, c9, c10, c11, c12, cf⟩ := act_cells HST.out.blk) | (go_at_call 23; (first | (with_reducible refine (itn_calls a Ha.out _ HSD.out.glob).mono ?_; rintro e wk ⟨rfl, he⟩; have HS2 := Lib.hid (HSD.out.more he); clear he; have HST := Lib.hid HS2.out; obtain ⟨c0, c1, c2, c3, c4, c5, c6, c7, c8, c9, c10, c11, c12, cf⟩ := act_cells HST.out.blk) | (with_reducible refine (itn_calls nm Hnm.out _ HSD.out.glob).mono ?_; rintro e wk ⟨rfl, he⟩; have HS2 := Lib.hid (HSD.out.more he); clear he; have HST := Lib.hid HS2.out; obtain ⟨c0, c1, c2, c3, c4, c5, c6, c7, c8, c9, c10, c11, c12, cf⟩ := act_cells HST.out.blk) | (with_reducible refine (itn_calls a Ha.out _ HST.out.glob).mono ?_; rintro e wk ⟨rfl, he⟩; have HS2 := Lib.hid (HST.out.more he); clear he; have HST := Lib.hid HS2.out; obtain ⟨c0, c1, c2, c3, c4, c5, c6, c7, c8, c9, c10, c11, c12, cf⟩ := act_cells HST.out.blk) | (with_reducible refine (itn_calls nm Hnm.out _ HST.out.glob).mono ?_; rintro e wk ⟨rfl, he⟩; have HS2 := Lib.hid (HST.out.more he); clear he; have HST := Lib.hid HS2.out; obtain ⟨c0, c1, c2, c3, c4, c5, c6, c7, c8, c9, c10, c11, c12, cf⟩ := act_cells HST.out.blk)))))
    go_wp2_with fail
    go_loopw [3, 5, 125] (fun lv _ iv wr => ∃ m : Nat, m ≤ ps.length ∧ iv = .int .i64 m ∧ WSt B w wr #[Value.int IntKind.i64 9, Value.int IntKind.i64 c, Value.int IntKind.i64 o, Value.int IntKind.i64 v, Value.int IntKind.i64 i, Value.int IntKind.i64 a, Value.int IntKind.i64 b, Value.int IntKind.u64 key, Value.int IntKind.u32 ck, Value.bool g, dv, Value.int IntKind.i64 nm, .slice fa ps.length fcap] lv ([bs [99, 114, 97, 115, 104]] ++ [bs (Lib.itoa a), bs (Lib.itoa nm)] ++ (ps.take m).map pickWord)) (fun _ _ iv _ => ps.length - (intOf iv).toNat)
    case atStart => exact ⟨0, by omega, rfl, by simpa using HST.out⟩
    case round =>
      obtain ⟨m, hm, rfl, hst⟩ := hrel
      have HFW := Lib.hid (HF.out.below hst.ext)
      have HST := Lib.hid hst
      clear hst
      by_cases hlt : m < ps.length
      · obtain ⟨b2, off, hfa, hb2, _⟩ := HFW.out.some_of (by omega)
        subst hfa
        obtain ⟨cs, hk, hc⟩ := HFW.out.at_ m hlt
        obtain ⟨_, _, rfl, ⟨rfl, hkin⟩, ⟨rfl, htin⟩⟩ := hk
        have hc0 := hc 0 _ rfl
        have hc1 := hc 1 _ rfl
        simp only [Kd.pick, Kd.iso, Kd.pair, Kd.int, Kd.scalar, Nat.add_zero] at hc0 hc1 hkin htin
        clear hc
        generalize hpp : ps[m] = p at *
        have HPP := Lib.hid hpp
        have HPK := Lib.hid (And.intro hkin htin)
        clear hpp hkin
        simp only [InK] at htin
        have HPT := Lib.hid (show InK .i64 p.turn from by simp only [InK]; omega)
        have HPB := Lib.hid (heap_alloc_new wr (Obj.cells #[Value.int IntKind.i64 p.keep, Value.int IntKind.u8 p.turn] 108))
        have HSD := Lib.hid (HST.out.more (Ext.alloc (Ext.rfl_ _) (Obj.cells #[Value.int IntKind.i64 p.keep, Value.int IntKind.u8 p.turn] 108)).drew)
        have HLB := Lib.hid (fun q (hq : Value.ownBlock _ = some q) => (HST.out.own.block_lt hq).1)
        have hwr : IntKind.i64.wrap p.turn = p.turn := IntWalk.i64_in _ (by omega)
        have hl1 : (bs (Lib.itoa p.keep)).size ≤ 21 := Lib.itoa_length_le _ HPK.out.1.1 HPK.out.1.2
        have hl2 : (bs (Lib.itoa p.turn)).size ≤ 21 := Lib.itoa_length_le _ HPT.out.1 HPT.out.2
        have hcat1 : ∀ w0, (Op.stringOp .add (bs (Lib.itoa p.keep)) ⟨#[58]⟩).run Tryz.prog w0 = .ok (.string (bs (Lib.itoa p.keep ++ [58]))) w0 := fun w0 => (run_string_add_sum w0 _ _ (by show _ + 1 ≤ _; omega)).trans (by rw [show (⟨#[58]⟩ : ByteArray) = bs [58] from rfl, bs_append])
        have hcat2 : ∀ w0, (Op.stringOp .add (bs (Lib.itoa p.keep ++ [58])) (bs (Lib.itoa p.turn))).run Tryz.prog w0 = .ok (.string (pickWord p)) w0 := fun w0 => (run_string_add_sum w0 _ _ (by rw [← bs_append]; show (bs _ ++ bs [58]).size + _ ≤ _; rw [ByteArray.size_append]; show _ + 1 + _ ≤ _; omega)).trans (by rw [bs_append, pickWord, List.append_assoc]; rfl)
        clear hl1 hl2
        go_wp2_with fail
        go_region_held3 (fun W => W.cell? ⟨wr.heap.size, 0, none⟩ = some (.int .i64 p.keep) ∧ W.cell? ⟨wr.heap.size, 1, none⟩ = some (.int .u8 p.turn))
          (first | go_keep | exact ⟨d0, d1⟩)
          ((first | (refine wst_step HST.out [pickWord p] rfl _ _ rfl rfl rfl rfl rfl rfl (by have := hpl; simp; omega) ?_; intro v' w5 hst hkp; have HST := Lib.hid hst; obtain ⟨d0, d1⟩ := pick_cells ((hkp wr.heap.size (Array.getElem?_eq_some_iff.1 HPB.out).1 (fun e => by have := HLB.out _ e.symm; omega)).trans HPB.out); clear hst hkp) | (go_at_call 23; (first | (with_reducible refine (itn_calls p.keep HPK.out.1 _ HSD.out.glob).mono ?_; rintro e wk ⟨rfl, he⟩; have hpb := Lib.hid ((he.block _ (Array.getElem?_eq_some_iff.1 HPB.out).1).trans HPB.out); have HPB := Lib.hid hpb.out; clear hpb; obtain ⟨d0, d1⟩ := pick_cells HPB.out; have HS2 := Lib.hid (HSD.out.more he); clear he; have HST := Lib.hid HS2.out) | (with_reducible refine (itn_calls p.turn HPT.out _ HSD.out.glob).mono ?_; rintro e wk ⟨rfl, he⟩; have hpb := Lib.hid ((he.block _ (Array.getElem?_eq_some_iff.1 HPB.out).1).trans HPB.out); have HPB := Lib.hid hpb.out; clear hpb; obtain ⟨d0, d1⟩ := pick_cells HPB.out; have HS2 := Lib.hid (HSD.out.more he); clear he; have HST := Lib.hid HS2.out) | (with_reducible refine (itn_calls p.keep HPK.out.1 _ HST.out.glob).mono ?_; rintro e wk ⟨rfl, he⟩; have hpb := Lib.hid ((he.block _ (Array.getElem?_eq_some_iff.1 HPB.out).1).trans HPB.out); have HPB := Lib.hid hpb.out; clear hpb; obtain ⟨d0, d1⟩ := pick_cells HPB.out; have HS2 := Lib.hid (HST.out.more he); clear he; have HST := Lib.hid HS2.out) | (with_reducible refine (itn_calls p.turn HPT.out _ HST.out.glob).mono ?_; rintro e wk ⟨rfl, he⟩; have hpb := Lib.hid ((he.block _ (Array.getElem?_eq_some_iff.1 HPB.out).1).trans HPB.out); have HPB := Lib.hid hpb.out; clear hpb; obtain ⟨d0, d1⟩ := pick_cells HPB.out; have HS2 := Lib.hid (HST.out.more he); clear he; have HST := Lib.hid HS2.out)))))
        go_wp2_with fail
        go_roundw
        case rel =>
          refine ⟨m + 1, by omega, by go_num, ?_⟩
          have e : ps.take (m + 1) = ps.take m ++ [p] := by rw [List.take_add_one, List.getElem?_eq_getElem hlt, HPP.out]; rfl
          rw [e, List.map_append, ← List.append_assoc]
          exact HST.out
        case measure => simp [intOf]; omega
      · have hml : m = ps.length := by omega
        have HST2 := Lib.hid (show WSt B w wr #[Value.int IntKind.i64 9, Value.int IntKind.i64 c, Value.int IntKind.i64 o, Value.int IntKind.i64 v, Value.int IntKind.i64 i, Value.int IntKind.i64 a, Value.int IntKind.i64 b, Value.int IntKind.u64 key, Value.int IntKind.u32 ck, Value.bool g, dv, Value.int IntKind.i64 nm, .slice fa ps.length fcap] _ ([bs [99, 114, 97, 115, 104]] ++ [bs (Lib.itoa a), bs (Lib.itoa nm)] ++ ps.map pickWord) from by have := HST.out; rw [hml, List.take_length] at this; exact this)
        go_wp2_with fail
        go_ret
        exact ⟨_, rfl, HST2.out.own.lower (Nat.le_succ _), HST2.out.ext⟩
end Go.Proofs.YtjipffbnndbchaaGreatDoor
