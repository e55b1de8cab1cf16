/- The walks of script: the words of an act. Printed by gen_words.py. -/
import Derived.Test.YtjipffbnndbchaaGreatDoorWdB
import Derived.Deep.RegionHeld3
import Derived.Deep.RegionLaw
import Derived.IntWalk
import Derived.Laws.Concat
import Derived.Lib.ItoaLen
namespace Go.Proofs.YtjipffbnndbchaaGreatDoor
open Go.RowKit
set_option maxRecDepth 100000

set_option maxHeartbeats 2000000 in
theorem words_0n {B : Nat} (c o v i a b key ck : Int) (g : Bool) (dv : Value) (nm : Int) (fv : Value) (w : World) (hG : Glob B w) (kn cn : Nat) (hc : InK .i64 c) (hv : InK .i64 v) (hkn : kn < 18446744073709551616) (hcn : cn < 4294967296) (hkey : key = kn) (hck : ck = cn) (ho : (o == 1) = false) :
    Calls Tryz.prog 38 #[acVal 0 c o v i a b key ck g dv nm fv] w fun e w' => WordsR w (bs [98, 101, 103, 105, 110] :: [bs (Lib.itoa c), opName o, bs (Lib.itoa v), bs (Lib.decDigits kn), bs (Lib.decDigits cn)]) e w' := by
  subst hkey hck
  have HC := Lib.hid hc
  have HV := Lib.hid hv
  have HKN := Lib.hid hkn
  have HCN := Lib.hid (show cn < 18446744073709551616 from by omega)
  have hwr : IntKind.u64.wrap (cn : Int) = cn := IntWalk.u64_in _ (by omega)
  clear hc hv
  go_enter Tryz.func38, Tryz.ntmps38
  go_wp2_with fail
  have HN := Lib.hid (heap_alloc_new w (Obj.cells #[Value.int IntKind.i64 0, Value.int IntKind.i64 c, Value.int IntKind.i64 o, Value.int IntKind.i64 v, Value.int IntKind.i64 i, Value.int IntKind.i64 a, Value.int IntKind.i64 b, Value.int IntKind.u64 kn, Value.int IntKind.u32 cn, Value.bool g, dv, Value.int IntKind.i64 nm, fv] 56))
  go_region_law ((go_simp; go_at_call 36; (with_reducible refine (names_calls2 _).mono ?_); rintro e wn ⟨rfl, rfl⟩))
  all_goals
    have HST := Lib.hid (WSt.first hG #[Value.int IntKind.i64 0, Value.int IntKind.i64 c, Value.int IntKind.i64 o, Value.int IntKind.i64 v, Value.int IntKind.i64 i, Value.int IntKind.i64 a, Value.int IntKind.i64 b, Value.int IntKind.u64 kn, Value.int IntKind.u32 cn, Value.bool g, dv, Value.int IntKind.i64 nm, fv] nameArr (bs [98, 101, 103, 105, 110]))
    generalize ((((w.alloc _).alloc _).alloc _).drew) = W at *
    obtain ⟨c0, c1, c2, c3, c4, c5, c6, c7, c8, c9, c10, c11, c12, cf⟩ := act_cells HST.out.blk
    have HSD := Lib.hid (HST.out.more (Ext.drew (Ext.rfl_ _)))
    go_wp2_with fail
    go_region_held3 (fun W => W.cell? ⟨w.heap.size, 1, none⟩ = some (.int .i64 c) ∧ W.cell? ⟨w.heap.size, 2, none⟩ = some (.int .i64 o) ∧ W.cell? ⟨w.heap.size, 3, none⟩ = some (.int .i64 v) ∧ W.cell? ⟨w.heap.size, 7, none⟩ = some (.int .u64 kn) ∧ W.cell? ⟨w.heap.size, 8, none⟩ = some (.int .u32 cn))
      (first | exact ⟨c1, c2, c3, c7, c8⟩ | go_keep)
      ((first | (refine wst_step HST.out [bs (Lib.itoa c), opName o, bs (Lib.itoa v), bs (Lib.decDigits kn), bs (Lib.decDigits cn)] rfl _ _ rfl rfl rfl rfl rfl rfl (by simp) ?_; intro v' w5 hst _; have HST := Lib.hid hst; clear hst; obtain ⟨c0, c1, c2, c3, c4, c5, c6, c7, c8, c9, c10, c11, c12, cf⟩ := act_cells HST.out.blk) | (go_at_call 23; (first | (with_reducible refine (itn_calls c HC.out _ HSD.out.glob).mono ?_; rintro e wk ⟨rfl, he⟩; have HS2 := Lib.hid (HSD.out.more he); clear he; have HST := Lib.hid HS2.out; obtain ⟨c0, c1, c2, c3, c4, c5, c6, c7, c8, c9, c10, c11, c12, cf⟩ := act_cells HST.out.blk) | (with_reducible refine (itn_calls v HV.out _ HSD.out.glob).mono ?_; rintro e wk ⟨rfl, he⟩; have HS2 := Lib.hid (HSD.out.more he); clear he; have HST := Lib.hid HS2.out; obtain ⟨c0, c1, c2, c3, c4, c5, c6, c7, c8, c9, c10, c11, c12, cf⟩ := act_cells HST.out.blk) | (with_reducible refine (itn_calls c HC.out _ HST.out.glob).mono ?_; rintro e wk ⟨rfl, he⟩; have HS2 := Lib.hid (HST.out.more he); clear he; have HST := Lib.hid HS2.out; obtain ⟨c0, c1, c2, c3, c4, c5, c6, c7, c8, c9, c10, c11, c12, cf⟩ := act_cells HST.out.blk) | (with_reducible refine (itn_calls v HV.out _ HST.out.glob).mono ?_; rintro e wk ⟨rfl, he⟩; have HS2 := Lib.hid (HST.out.more he); clear he; have HST := Lib.hid HS2.out; obtain ⟨c0, c1, c2, c3, c4, c5, c6, c7, c8, c9, c10, c11, c12, cf⟩ := act_cells HST.out.blk))) | (go_at_call 22; (with_reducible refine (op_calls _ _).mono ?_; rintro e wk ⟨rfl, rfl⟩)) | (go_at_call 26; (first | (with_reducible refine (fmtUint_calls kn HKN.out _ HSD.out.glob).mono ?_; rintro e wk ⟨rfl, he⟩; have HS2 := Lib.hid (HSD.out.more he); clear he; have HST := Lib.hid HS2.out; obtain ⟨c0, c1, c2, c3, c4, c5, c6, c7, c8, c9, c10, c11, c12, cf⟩ := act_cells HST.out.blk) | (with_reducible refine (fmtUint_calls cn HCN.out _ HSD.out.glob).mono ?_; rintro e wk ⟨rfl, he⟩; have HS2 := Lib.hid (HSD.out.more he); clear he; have HST := Lib.hid HS2.out; obtain ⟨c0, c1, c2, c3, c4, c5, c6, c7, c8, c9, c10, c11, c12, cf⟩ := act_cells HST.out.blk) | (with_reducible refine (fmtUint_calls kn HKN.out _ HST.out.glob).mono ?_; rintro e wk ⟨rfl, he⟩; have HS2 := Lib.hid (HST.out.more he); clear he; have HST := Lib.hid HS2.out; obtain ⟨c0, c1, c2, c3, c4, c5, c6, c7, c8, c9, c10, c11, c12, cf⟩ := act_cells HST.out.blk) | (with_reducible refine (fmtUint_calls cn HCN.out _ HST.out.glob).mono ?_; rintro e wk ⟨rfl, he⟩; have HS2 := Lib.hid (HST.out.more he); clear he; have HST := Lib.hid HS2.out; obtain ⟨c0, c1, c2, c3, c4, c5, c6, c7, c8, c9, c10, c11, c12, cf⟩ := act_cells HST.out.blk)))))
    go_wp2_with fail
    go_ret
    exact ⟨_, rfl, HST.out.own.lower (Nat.le_succ _), HST.out.ext⟩

set_option maxHeartbeats 2000000 in
theorem words_0p {B : Nat} (c o v i a b key ck : Int) (g : Bool) (dv : Value) (nm : Int) (fv : Value) (w : World) (hG : Glob B w) (kn cn : Nat) (hc : InK .i64 c) (hv : InK .i64 v) (hkn : kn < 18446744073709551616) (hcn : cn < 4294967296) (hkey : key = kn) (hck : ck = cn) (da : Option Addr) (dcap : Nat) (xs : List Int) (hdv : dv = .slice da xs.length dcap) (hd : Row (Kd.int .u8) w (fun _ => True) da dcap xs) (hxl : xs.length ≤ 1000000) (ho : o = 1) :
    Calls Tryz.prog 38 #[acVal 0 c o v i a b key ck g dv nm fv] w fun e w' => WordsR w (bs [98, 101, 103, 105, 110] :: [bs (Lib.itoa c), opName o, bs (Lib.itoa v), bs (Lib.decDigits kn), bs (Lib.decDigits cn)] ++ [hexStr xs]) e w' := by
  subst hkey hck
  subst hdv ho
  have HD := Lib.hid hd
  clear hd
  have HC := Lib.hid hc
  have HV := Lib.hid hv
  have HKN := Lib.hid hkn
  have HCN := Lib.hid (show cn < 18446744073709551616 from by omega)
  have hwr : IntKind.u64.wrap (cn : Int) = cn := IntWalk.u64_in _ (by omega)
  clear hc hv
  go_enter Tryz.func38, Tryz.ntmps38
  go_wp2_with fail
  have HN := Lib.hid (heap_alloc_new w (Obj.cells #[Value.int IntKind.i64 0, Value.int IntKind.i64 c, Value.int IntKind.i64 1, Value.int IntKind.i64 v, Value.int IntKind.i64 i, Value.int IntKind.i64 a, Value.int IntKind.i64 b, Value.int IntKind.u64 kn, Value.int IntKind.u32 cn, Value.bool g, .slice da xs.length dcap, Value.int IntKind.i64 nm, fv] 56))
  go_region_law ((go_simp; go_at_call 36; (with_reducible refine (names_calls2 _).mono ?_); rintro e wn ⟨rfl, rfl⟩))
  all_goals
    have HST := Lib.hid (WSt.first hG #[Value.int IntKind.i64 0, Value.int IntKind.i64 c, Value.int IntKind.i64 1, Value.int IntKind.i64 v, Value.int IntKind.i64 i, Value.int IntKind.i64 a, Value.int IntKind.i64 b, Value.int IntKind.u64 kn, Value.int IntKind.u32 cn, Value.bool g, .slice da xs.length dcap, Value.int IntKind.i64 nm, fv] nameArr (bs [98, 101, 103, 105, 110]))
    generalize ((((w.alloc _).alloc _).alloc _).drew) = W at *
    obtain ⟨c0, c1, c2, c3, c4, c5, c6, c7, c8, c9, c10, c11, c12, cf⟩ := act_cells HST.out.blk
    have HSD := Lib.hid (HST.out.more (Ext.drew (Ext.rfl_ _)))
    go_wp2_with fail
    go_region_held3 (fun W => W.cell? ⟨w.heap.size, 1, none⟩ = some (.int .i64 c) ∧ W.cell? ⟨w.heap.size, 2, none⟩ = some (.int .i64 1) ∧ W.cell? ⟨w.heap.size, 3, none⟩ = some (.int .i64 v) ∧ W.cell? ⟨w.heap.size, 7, none⟩ = some (.int .u64 kn) ∧ W.cell? ⟨w.heap.size, 8, none⟩ = some (.int .u32 cn))
      (first | exact ⟨c1, c2, c3, c7, c8⟩ | go_keep)
      ((first | (refine wst_step HST.out [bs (Lib.itoa c), opName 1, bs (Lib.itoa v), bs (Lib.decDigits kn), bs (Lib.decDigits cn)] rfl _ _ rfl rfl rfl rfl rfl rfl (by simp) ?_; intro v' w5 hst _; have HST := Lib.hid hst; clear hst; obtain ⟨c0, c1, c2, c3, c4, c5, c6, c7, c8, c9, c10, c11, c12, cf⟩ := act_cells HST.out.blk) | (go_at_call 23; (first | (with_reducible refine (itn_calls c HC.out _ HSD.out.glob).mono ?_; rintro e wk ⟨rfl, he⟩; have HS2 := Lib.hid (HSD.out.more he); clear he; have HST := Lib.hid HS2.out; obtain ⟨c0, c1, c2, c3, c4, c5, c6, c7, c8, c9, c10, c11, c12, cf⟩ := act_cells HST.out.blk) | (with_reducible refine (itn_calls v HV.out _ HSD.out.glob).mono ?_; rintro e wk ⟨rfl, he⟩; have HS2 := Lib.hid (HSD.out.more he); clear he; have HST := Lib.hid HS2.out; obtain ⟨c0, c1, c2, c3, c4, c5, c6, c7, c8, c9, c10, c11, c12, cf⟩ := act_cells HST.out.blk) | (with_reducible refine (itn_calls c HC.out _ HST.out.glob).mono ?_; rintro e wk ⟨rfl, he⟩; have HS2 := Lib.hid (HST.out.more he); clear he; have HST := Lib.hid HS2.out; obtain ⟨c0, c1, c2, c3, c4, c5, c6, c7, c8, c9, c10, c11, c12, cf⟩ := act_cells HST.out.blk) | (with_reducible refine (itn_calls v HV.out _ HST.out.glob).mono ?_; rintro e wk ⟨rfl, he⟩; have HS2 := Lib.hid (HST.out.more he); clear he; have HST := Lib.hid HS2.out; obtain ⟨c0, c1, c2, c3, c4, c5, c6, c7, c8, c9, c10, c11, c12, cf⟩ := act_cells HST.out.blk))) | (go_at_call 22; (with_reducible refine (op_calls _ _).mono ?_; rintro e wk ⟨rfl, rfl⟩)) | (go_at_call 26; (first | (with_reducible refine (fmtUint_calls kn HKN.out _ HSD.out.glob).mono ?_; rintro e wk ⟨rfl, he⟩; have HS2 := Lib.hid (HSD.out.more he); clear he; have HST := Lib.hid HS2.out; obtain ⟨c0, c1, c2, c3, c4, c5, c6, c7, c8, c9, c10, c11, c12, cf⟩ := act_cells HST.out.blk) | (with_reducible refine (fmtUint_calls cn HCN.out _ HSD.out.glob).mono ?_; rintro e wk ⟨rfl, he⟩; have HS2 := Lib.hid (HSD.out.more he); clear he; have HST := Lib.hid HS2.out; obtain ⟨c0, c1, c2, c3, c4, c5, c6, c7, c8, c9, c10, c11, c12, cf⟩ := act_cells HST.out.blk) | (with_reducible refine (fmtUint_calls kn HKN.out _ HST.out.glob).mono ?_; rintro e wk ⟨rfl, he⟩; have HS2 := Lib.hid (HST.out.more he); clear he; have HST := Lib.hid HS2.out; obtain ⟨c0, c1, c2, c3, c4, c5, c6, c7, c8, c9, c10, c11, c12, cf⟩ := act_cells HST.out.blk) | (with_reducible refine (fmtUint_calls cn HCN.out _ HST.out.glob).mono ?_; rintro e wk ⟨rfl, he⟩; have HS2 := Lib.hid (HST.out.more he); clear he; have HST := Lib.hid HS2.out; obtain ⟨c0, c1, c2, c3, c4, c5, c6, c7, c8, c9, c10, c11, c12, cf⟩ := act_cells HST.out.blk)))))
    go_wp2_with (first | (go_at_call 65; go_must (with_reducible refine (sdata_calls da xs dcap _ (HD.out.below HST.out.ext) hxl).mono ?_); rintro e wk ⟨rfl, he⟩; have HS2 := Lib.hid (HST.out.more he); clear he; have HST := Lib.hid HS2.out; obtain ⟨c0, c1, c2, c3, c4, c5, c6, c7, c8, c9, c10, c11, c12, cf⟩ := act_cells HST.out.blk) | (at_builtin; go_must (refine wst_push HST.out [hexStr xs] rfl _ _ rfl rfl rfl rfl rfl rfl (by simp) ?_); intro v' w5 hst; have HST := Lib.hid hst; clear hst))
    go_ret
    exact ⟨_, rfl, HST.out.own.lower (Nat.le_succ _), HST.out.ext⟩
end Go.Proofs.YtjipffbnndbchaaGreatDoor
