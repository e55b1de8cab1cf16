/- The walks of script: the words of an act. Printed by gen_words.py. -/
import Derived.Test.YtjipffbnndbchaaGreatDoorWdB
import Derived.Deep.RegionHeld3
import Derived.Deep.RegionLaw
import Derived.IntWalk
import Derived.Laws.Concat
import Derived.Lib.ItoaLen
namespace Go.Proofs.YtjipffbnndbchaaGreatDoor
open Go.RowKit
set_option maxRecDepth 100000

set_option maxHeartbeats 2000000 in
theorem words_5 {B : Nat} (c o v i a b key ck : Int) (g : Bool) (dv : Value) (nm : Int) (fv : Value) (w : World) (hG : Glob B w) (ha : InK .i64 a) (hb : InK .i64 b) :
    Calls Tryz.prog 38 #[acVal 5 c o v i a b key ck g dv nm fv] w fun e w' => WordsR w (bs [99, 117, 116] :: [bs (Lib.itoa a), bs (Lib.itoa b)]) e w' := by
  have Ha := Lib.hid ha
  clear ha
  have Hb := Lib.hid hb
  clear hb
  go_enter Tryz.func38, Tryz.ntmps38
  go_wp2_with fail
  have HN := Lib.hid (heap_alloc_new w (Obj.cells #[Value.int IntKind.i64 5, Value.int IntKind.i64 c, Value.int IntKind.i64 o, Value.int IntKind.i64 v, Value.int IntKind.i64 i, Value.int IntKind.i64 a, Value.int IntKind.i64 b, Value.int IntKind.u64 key, Value.int IntKind.u32 ck, Value.bool g, dv, Value.int IntKind.i64 nm, fv] 56))
  go_region_law ((go_simp; go_at_call 36; (with_reducible refine (names_calls2 _).mono ?_); rintro e wn ⟨rfl, rfl⟩))
  all_goals
    have HST := Lib.hid (WSt.first hG #[Value.int IntKind.i64 5, Value.int IntKind.i64 c, Value.int IntKind.i64 o, Value.int IntKind.i64 v, Value.int IntKind.i64 i, Value.int IntKind.i64 a, Value.int IntKind.i64 b, Value.int IntKind.u64 key, Value.int IntKind.u32 ck, Value.bool g, dv, Value.int IntKind.i64 nm, fv] nameArr (bs [99, 117, 116]))
    generalize ((((w.alloc _).alloc _).alloc _).drew) = W at *
    obtain ⟨c0, c1, c2, c3, c4, c5, c6, c7, c8, c9, c10, c11, c12, cf⟩ := act_cells HST.out.blk
    have HSD := Lib.hid (HST.out.more (Ext.drew (Ext.rfl_ _)))
    go_wp2_with fail
    go_region_held3 (fun W => W.cell? ⟨w.heap.size, 5, none⟩ = some (.int .i64 a) ∧ W.cell? ⟨w.heap.size, 6, none⟩ = some (.int .i64 b))
      (first | exact ⟨c5, c6⟩ | go_keep)
      ((first | (refine wst_step HST.out [bs (Lib.itoa a), bs (Lib.itoa b)] rfl _ _ rfl rfl rfl rfl rfl rfl (by simp) ?_; intro v' w5 hst _; have HST := Lib.hid hst; clear hst; obtain ⟨c0, c1, c2, c3, c4, c5, c6, c7, c8, c9, c10, c11, c12, cf⟩ := act_cells HST.out.blk) | (go_at_call 23; (first | (with_reducible refine (itn_calls a Ha.out _ HSD.out.glob).mono ?_; rintro e wk ⟨rfl, he⟩; have HS2 := Lib.hid (HSD.out.more he); clear he; have HST := Lib.hid HS2.out; obtain ⟨c0, c1, c2, c3, c4, c5, c6, c7, c8, c9, c10, c11, c12, cf⟩ := act_cells HST.out.blk) | (with_reducible refine (itn_calls b Hb.out _ HSD.out.glob).mono ?_; rintro e wk ⟨rfl, he⟩; have HS2 := Lib.hid (HSD.out.more he); clear he; have HST := Lib.hid HS2.out; obtain ⟨c0, c1, c2, c3, c4, c5, c6, c7, c8, c9, c10, c11, c12, cf⟩ := act_cells HST.out.blk) | (with_reducible refine (itn_calls a Ha.out _ HST.out.glob).mono ?_; rintro e wk ⟨rfl, he⟩; have HS2 := Lib.hid (HST.out.more he); clear he; have HST := Lib.hid HS2.out; obtain ⟨c0, c1, c2, c3, c4, c5, c6, c7, c8, c9, c10, c11, c12, cf⟩ := act_cells HST.out.blk) | (with_reducible refine (itn_calls b Hb.out _ HST.out.glob).mono ?_; rintro e wk ⟨rfl, he⟩; have HS2 := Lib.hid (HST.out.more he); clear he; have HST := Lib.hid HS2.out; obtain ⟨c0, c1, c2, c3, c4, c5, c6, c7, c8, c9, c10, c11, c12, cf⟩ := act_cells HST.out.blk)))))
    go_wp2_with fail
    go_ret
    exact ⟨_, rfl, HST.out.own.lower (Nat.le_succ _), HST.out.ext⟩

set_option maxHeartbeats 2000000 in
theorem words_6 {B : Nat} (c o v i a b key ck : Int) (g : Bool) (dv : Value) (nm : Int) (fv : Value) (w : World) (hG : Glob B w) (ha : InK .i64 a) (hb : InK .i64 b) :
    Calls Tryz.prog 38 #[acVal 6 c o v i a b key ck g dv nm fv] w fun e w' => WordsR w (bs [106, 111, 105, 110] :: [bs (Lib.itoa a), bs (Lib.itoa b)]) e w' := by
  have Ha := Lib.hid ha
  clear ha
  have Hb := Lib.hid hb
  clear hb
  go_enter Tryz.func38, Tryz.ntmps38
  go_wp2_with fail
  have HN := Lib.hid (heap_alloc_new w (Obj.cells #[Value.int IntKind.i64 6, Value.int IntKind.i64 c, Value.int IntKind.i64 o, Value.int IntKind.i64 v, Value.int IntKind.i64 i, Value.int IntKind.i64 a, Value.int IntKind.i64 b, Value.int IntKind.u64 key, Value.int IntKind.u32 ck, Value.bool g, dv, Value.int IntKind.i64 nm, fv] 56))
  go_region_law ((go_simp; go_at_call 36; (with_reducible refine (names_calls2 _).mono ?_); rintro e wn ⟨rfl, rfl⟩))
  all_goals
    have HST := Lib.hid (WSt.first hG #[Value.int IntKind.i64 6, Value.int IntKind.i64 c, Value.int IntKind.i64 o, Value.int IntKind.i64 v, Value.int IntKind.i64 i, Value.int IntKind.i64 a, Value.int IntKind.i64 b, Value.int IntKind.u64 key, Value.int IntKind.u32 ck, Value.bool g, dv, Value.int IntKind.i64 nm, fv] nameArr (bs [106, 111, 105, 110]))
    generalize ((((w.alloc _).alloc _).alloc _).drew) = W at *
    obtain ⟨c0, c1, c2, c3, c4, c5, c6, c7, c8, c9, c10, c11, c12, cf⟩ := act_cells HST.out.blk
    have HSD := Lib.hid (HST.out.more (Ext.drew (Ext.rfl_ _)))
    go_wp2_with fail
    go_region_held3 (fun W => W.cell? ⟨w.heap.size, 5, none⟩ = some (.int .i64 a) ∧ W.cell? ⟨w.heap.size, 6, none⟩ = some (.int .i64 b))
      (first | exact ⟨c5, c6⟩ | go_keep)
      ((first | (refine wst_step HST.out [bs (Lib.itoa a), bs (Lib.itoa b)] rfl _ _ rfl rfl rfl rfl rfl rfl (by simp) ?_; intro v' w5 hst _; have HST := Lib.hid hst; clear hst; obtain ⟨c0, c1, c2, c3, c4, c5, c6, c7, c8, c9, c10, c11, c12, cf⟩ := act_cells HST.out.blk) | (go_at_call 23; (first | (with_reducible refine (itn_calls a Ha.out _ HSD.out.glob).mono ?_; rintro e wk ⟨rfl, he⟩; have HS2 := Lib.hid (HSD.out.more he); clear he; have HST := Lib.hid HS2.out; obtain ⟨c0, c1, c2, c3, c4, c5, c6, c7, c8, c9, c10, c11, c12, cf⟩ := act_cells HST.out.blk) | (with_reducible refine (itn_calls b Hb.out _ HSD.out.glob).mono ?_; rintro e wk ⟨rfl, he⟩; have HS2 := Lib.hid (HSD.out.more he); clear he; have HST := Lib.hid HS2.out; obtain ⟨c0, c1, c2, c3, c4, c5, c6, c7, c8, c9, c10, c11, c12, cf⟩ := act_cells HST.out.blk) | (with_reducible refine (itn_calls a Ha.out _ HST.out.glob).mono ?_; rintro e wk ⟨rfl, he⟩; have HS2 := Lib.hid (HST.out.more he); clear he; have HST := Lib.hid HS2.out; obtain ⟨c0, c1, c2, c3, c4, c5, c6, c7, c8, c9, c10, c11, c12, cf⟩ := act_cells HST.out.blk) | (with_reducible refine (itn_calls b Hb.out _ HST.out.glob).mono ?_; rintro e wk ⟨rfl, he⟩; have HS2 := Lib.hid (HST.out.more he); clear he; have HST := Lib.hid HS2.out; obtain ⟨c0, c1, c2, c3, c4, c5, c6, c7, c8, c9, c10, c11, c12, cf⟩ := act_cells HST.out.blk)))))
    go_wp2_with fail
    go_ret
    exact ⟨_, rfl, HST.out.own.lower (Nat.le_succ _), HST.out.ext⟩

set_option maxHeartbeats 2000000 in
theorem words_7 {B : Nat} (c o v i a b key ck : Int) (g : Bool) (dv : Value) (nm : Int) (fv : Value) (w : World) (hG : Glob B w) (ha : InK .i64 a) (ho : InK .i64 o) (hv : InK .i64 v) :
    Calls Tryz.prog 38 #[acVal 7 c o v i a b key ck g dv nm fv] w fun e w' => WordsR w (bs [119, 111, 114, 107] :: [bs (Lib.itoa a), bs (Lib.itoa o), bs (Lib.itoa v)]) e w' := by
  have Ha := Lib.hid ha
  clear ha
  have Ho := Lib.hid ho
  clear ho
  have Hv := Lib.hid hv
  clear hv
  go_enter Tryz.func38, Tryz.ntmps38
  go_wp2_with fail
  have HN := Lib.hid (heap_alloc_new w (Obj.cells #[Value.int IntKind.i64 7, Value.int IntKind.i64 c, Value.int IntKind.i64 o, Value.int IntKind.i64 v, Value.int IntKind.i64 i, Value.int IntKind.i64 a, Value.int IntKind.i64 b, Value.int IntKind.u64 key, Value.int IntKind.u32 ck, Value.bool g, dv, Value.int IntKind.i64 nm, fv] 56))
  go_region_law ((go_simp; go_at_call 36; (with_reducible refine (names_calls2 _).mono ?_); rintro e wn ⟨rfl, rfl⟩))
  all_goals
    have HST := Lib.hid (WSt.first hG #[Value.int IntKind.i64 7, Value.int IntKind.i64 c, Value.int IntKind.i64 o, Value.int IntKind.i64 v, Value.int IntKind.i64 i, Value.int IntKind.i64 a, Value.int IntKind.i64 b, Value.int IntKind.u64 key, Value.int IntKind.u32 ck, Value.bool g, dv, Value.int IntKind.i64 nm, fv] nameArr (bs [119, 111, 114, 107]))
    generalize ((((w.alloc _).alloc _).alloc _).drew) = W at *
    obtain ⟨c0, c1, c2, c3, c4, c5, c6, c7, c8, c9, c10, c11, c12, cf⟩ := act_cells HST.out.blk
    have HSD := Lib.hid (HST.out.more (Ext.drew (Ext.rfl_ _)))
    go_wp2_with fail
    go_region_held3 (fun W => W.cell? ⟨w.heap.size, 5, none⟩ = some (.int .i64 a) ∧ W.cell? ⟨w.heap.size, 2, none⟩ = some (.int .i64 o) ∧ W.cell? ⟨w.heap.size, 3, none⟩ = some (.int .i64 v))
      (first | exact ⟨c5, c2, c3⟩ | go_keep)
      ((first | (refine wst_step HST.out [bs (Lib.itoa a), bs (Lib.itoa o), bs (Lib.itoa v)] rfl _ _ rfl rfl rfl rfl rfl rfl (by simp) ?_; intro v' w5 hst _; have HST := Lib.hid hst; clear hst; obtain ⟨c0, c1, c2, c3, c4, c5, c6, c7, c8, c9, c10, c11, c12, cf⟩ := act_cells HST.out.blk) | (go_at_call 23; (first | (with_reducible refine (itn_calls a Ha.out _ HSD.out.glob).mono ?_; rintro e wk ⟨rfl, he⟩; have HS2 := Lib.hid (HSD.out.more he); clear he; have HST := Lib.hid HS2.out; obtain ⟨c0, c1, c2, c3, c4, c5, c6, c7, c8, c9, c10, c11, c12, cf⟩ := act_cells HST.out.blk) | (with_reducible refine (itn_calls o Ho.out _ HSD.out.glob).mono ?_; rintro e wk ⟨rfl, he⟩; have HS2 := Lib.hid (HSD.out.more he); clear he; have HST := Lib.hid HS2.out; obtain ⟨c0, c1, c2, c3, c4, c5, c6, c7, c8, c9, c10, c11, c12, cf⟩ := act_cells HST.out.blk) | (with_reducible refine (itn_calls v Hv.out _ HSD.out.glob).mono ?_; rintro e wk ⟨rfl, he⟩; have HS2 := Lib.hid (HSD.out.more he); clear he; have HST := Lib.hid HS2.out; obtain ⟨c0, c1, c2, c3, c4, c5, c6, c7, c8, c9, c10, c11, c12, cf⟩ := act_cells HST.out.blk) | (with_reducible refine (itn_calls a Ha.out _ HST.out.glob).mono ?_; rintro e wk ⟨rfl, he⟩; have HS2 := Lib.hid (HST.out.more he); clear he; have HST := Lib.hid HS2.out; obtain ⟨c0, c1, c2, c3, c4, c5, c6, c7, c8, c9, c10, c11, c12, cf⟩ := act_cells HST.out.blk) | (with_reducible refine (itn_calls o Ho.out _ HST.out.glob).mono ?_; rintro e wk ⟨rfl, he⟩; have HS2 := Lib.hid (HST.out.more he); clear he; have HST := Lib.hid HS2.out; obtain ⟨c0, c1, c2, c3, c4, c5, c6, c7, c8, c9, c10, c11, c12, cf⟩ := act_cells HST.out.blk) | (with_reducible refine (itn_calls v Hv.out _ HST.out.glob).mono ?_; rintro e wk ⟨rfl, he⟩; have HS2 := Lib.hid (HST.out.more he); clear he; have HST := Lib.hid HS2.out; obtain ⟨c0, c1, c2, c3, c4, c5, c6, c7, c8, c9, c10, c11, c12, cf⟩ := act_cells HST.out.blk)))))
    go_wp2_with fail
    go_ret
    exact ⟨_, rfl, HST.out.own.lower (Nat.le_succ _), HST.out.ext⟩

set_option maxHeartbeats 2000000 in
theorem words_8 {B : Nat} (c o v i a b key ck : Int) (g : Bool) (dv : Value) (nm : Int) (fv : Value) (w : World) (hG : Glob B w) (ha : InK .i64 a) (hi : InK .i64 i) :
    Calls Tryz.prog 38 #[acVal 8 c o v i a b key ck g dv nm fv] w fun e w' => WordsR w (bs [97, 114, 109] :: [bs (Lib.itoa a), bs (Lib.itoa i)]) e w' := by
  have Ha := Lib.hid ha
  clear ha
  have Hi := Lib.hid hi
  clear hi
  go_enter Tryz.func38, Tryz.ntmps38
  go_wp2_with fail
  have HN := Lib.hid (heap_alloc_new w (Obj.cells #[Value.int IntKind.i64 8, Value.int IntKind.i64 c, Value.int IntKind.i64 o, Value.int IntKind.i64 v, Value.int IntKind.i64 i, Value.int IntKind.i64 a, Value.int IntKind.i64 b, Value.int IntKind.u64 key, Value.int IntKind.u32 ck, Value.bool g, dv, Value.int IntKind.i64 nm, fv] 56))
  go_region_law ((go_simp; go_at_call 36; (with_reducible refine (names_calls2 _).mono ?_); rintro e wn ⟨rfl, rfl⟩))
  all_goals
    have HST := Lib.hid (WSt.first hG #[Value.int IntKind.i64 8, Value.int IntKind.i64 c, Value.int IntKind.i64 o, Value.int IntKind.i64 v, Value.int IntKind.i64 i, Value.int IntKind.i64 a, Value.int IntKind.i64 b, Value.int IntKind.u64 key, Value.int IntKind.u32 ck, Value.bool g, dv, Value.int IntKind.i64 nm, fv] nameArr (bs [97, 114, 109]))
    generalize ((((w.alloc _).alloc _).alloc _).drew) = W at *
    obtain ⟨c0, c1, c2, c3, c4, c5, c6, c7, c8, c9, c10, c11, c12, cf⟩ := act_cells HST.out.blk
    have HSD := Lib.hid (HST.out.more (Ext.drew (Ext.rfl_ _)))
    go_wp2_with fail
    go_region_held3 (fun W => W.cell? ⟨w.heap.size, 5, none⟩ = some (.int .i64 a) ∧ W.cell? ⟨w.heap.size, 4, none⟩ = some (.int .i64 i))
      (first | exact ⟨c5, c4⟩ | go_keep)
      ((first | (refine wst_step HST.out [bs (Lib.itoa a), bs (Lib.itoa i)] rfl _ _ rfl rfl rfl rfl rfl rfl (by simp) ?_; intro v' w5 hst _; have HST := Lib.hid hst; clear hst; obtain ⟨c0, c1, c2, c3, c4, c5, c6, c7, c8, c9, c10, c11, c12, cf⟩ := act_cells HST.out.blk) | (go_at_call 23; (first | (with_reducible refine (itn_calls a Ha.out _ HSD.out.glob).mono ?_; rintro e wk ⟨rfl, he⟩; have HS2 := Lib.hid (HSD.out.more he); clear he; have HST := Lib.hid HS2.out; obtain ⟨c0, c1, c2, c3, c4, c5, c6, c7, c8, c9, c10, c11, c12, cf⟩ := act_cells HST.out.blk) | (with_reducible refine (itn_calls i Hi.out _ HSD.out.glob).mono ?_; rintro e wk ⟨rfl, he⟩; have HS2 := Lib.hid (HSD.out.more he); clear he; have HST := Lib.hid HS2.out; obtain ⟨c0, c1, c2, c3, c4, c5, c6, c7, c8, c9, c10, c11, c12, cf⟩ := act_cells HST.out.blk) | (with_reducible refine (itn_calls a Ha.out _ HST.out.glob).mono ?_; rintro e wk ⟨rfl, he⟩; have HS2 := Lib.hid (HST.out.more he); clear he; have HST := Lib.hid HS2.out; obtain ⟨c0, c1, c2, c3, c4, c5, c6, c7, c8, c9, c10, c11, c12, cf⟩ := act_cells HST.out.blk) | (with_reducible refine (itn_calls i Hi.out _ HST.out.glob).mono ?_; rintro e wk ⟨rfl, he⟩; have HS2 := Lib.hid (HST.out.more he); clear he; have HST := Lib.hid HS2.out; obtain ⟨c0, c1, c2, c3, c4, c5, c6, c7, c8, c9, c10, c11, c12, cf⟩ := act_cells HST.out.blk)))))
    go_wp2_with fail
    go_ret
    exact ⟨_, rfl, HST.out.own.lower (Nat.le_succ _), HST.out.ext⟩
end Go.Proofs.YtjipffbnndbchaaGreatDoor
