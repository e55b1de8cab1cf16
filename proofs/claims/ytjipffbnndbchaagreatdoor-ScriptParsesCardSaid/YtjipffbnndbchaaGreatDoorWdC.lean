/- The walks of script: the words of an act. Printed by gen_words.py. -/
import Derived.Test.YtjipffbnndbchaaGreatDoorWdB
import Derived.Deep.RegionHeld3
import Derived.Deep.RegionLaw
import Derived.IntWalk
import Derived.Laws.Concat
import Derived.Lib.ItoaLen
namespace Go.Proofs.YtjipffbnndbchaaGreatDoor
open Go.RowKit
set_option maxRecDepth 100000

set_option maxHeartbeats 2000000 in
theorem words_1 {B : Nat} (c o v i a b key ck : Int) (g : Bool) (dv : Value) (nm : Int) (fv : Value) (w : World) (hG : Glob B w) (hc : InK .i64 c) :
    Calls Tryz.prog 38 #[acVal 1 c o v i a b key ck g dv nm fv] w fun e w' => WordsR w (bs [115, 101, 110, 100] :: [bs (Lib.itoa c)]) e w' := by
  have Hc := Lib.hid hc
  clear hc
  go_enter Tryz.func38, Tryz.ntmps38
  go_wp2_with fail
  have HN := Lib.hid (heap_alloc_new w (Obj.cells #[Value.int IntKind.i64 1, Value.int IntKind.i64 c, Value.int IntKind.i64 o, Value.int IntKind.i64 v, Value.int IntKind.i64 i, Value.int IntKind.i64 a, Value.int IntKind.i64 b, Value.int IntKind.u64 key, Value.int IntKind.u32 ck, Value.bool g, dv, Value.int IntKind.i64 nm, fv] 56))
  go_region_law ((go_simp; go_at_call 36; (with_reducible refine (names_calls2 _).mono ?_); rintro e wn ⟨rfl, rfl⟩))
  all_goals
    have HST := Lib.hid (WSt.first hG #[Value.int IntKind.i64 1, Value.int IntKind.i64 c, Value.int IntKind.i64 o, Value.int IntKind.i64 v, Value.int IntKind.i64 i, Value.int IntKind.i64 a, Value.int IntKind.i64 b, Value.int IntKind.u64 key, Value.int IntKind.u32 ck, Value.bool g, dv, Value.int IntKind.i64 nm, fv] nameArr (bs [115, 101, 110, 100]))
    generalize ((((w.alloc _).alloc _).alloc _).drew) = W at *
    obtain ⟨c0, c1, c2, c3, c4, c5, c6, c7, c8, c9, c10, c11, c12, cf⟩ := act_cells HST.out.blk
    go_wp2_with (first | (go_at_call 23; go_must (with_reducible refine (itn_calls c Hc.out _ HST.out.glob).mono ?_; rintro e wk ⟨rfl, he⟩; have HS2 := Lib.hid (HST.out.more he); clear he; have HST := Lib.hid HS2.out; obtain ⟨c0, c1, c2, c3, c4, c5, c6, c7, c8, c9, c10, c11, c12, cf⟩ := act_cells HST.out.blk)) | (at_builtin; go_must (refine wst_push HST.out [bs (Lib.itoa c)] rfl _ _ rfl rfl rfl rfl rfl rfl (by simp) ?_); intro v' w5 hst; have HST := Lib.hid hst; clear hst))
    go_ret
    exact ⟨_, rfl, HST.out.own.lower (Nat.le_succ _), HST.out.ext⟩

set_option maxHeartbeats 2000000 in
theorem words_11 {B : Nat} (c o v i a b key ck : Int) (g : Bool) (dv : Value) (nm : Int) (fv : Value) (w : World) (hG : Glob B w) (hc : InK .i64 c) :
    Calls Tryz.prog 38 #[acVal 11 c o v i a b key ck g dv nm fv] w fun e w' => WordsR w (bs [113, 117, 105, 116] :: [bs (Lib.itoa c)]) e w' := by
  have Hc := Lib.hid hc
  clear hc
  go_enter Tryz.func38, Tryz.ntmps38
  go_wp2_with fail
  have HN := Lib.hid (heap_alloc_new w (Obj.cells #[Value.int IntKind.i64 11, Value.int IntKind.i64 c, Value.int IntKind.i64 o, Value.int IntKind.i64 v, Value.int IntKind.i64 i, Value.int IntKind.i64 a, Value.int IntKind.i64 b, Value.int IntKind.u64 key, Value.int IntKind.u32 ck, Value.bool g, dv, Value.int IntKind.i64 nm, fv] 56))
  go_region_law ((go_simp; go_at_call 36; (with_reducible refine (names_calls2 _).mono ?_); rintro e wn ⟨rfl, rfl⟩))
  all_goals
    have HST := Lib.hid (WSt.first hG #[Value.int IntKind.i64 11, Value.int IntKind.i64 c, Value.int IntKind.i64 o, Value.int IntKind.i64 v, Value.int IntKind.i64 i, Value.int IntKind.i64 a, Value.int IntKind.i64 b, Value.int IntKind.u64 key, Value.int IntKind.u32 ck, Value.bool g, dv, Value.int IntKind.i64 nm, fv] nameArr (bs [113, 117, 105, 116]))
    generalize ((((w.alloc _).alloc _).alloc _).drew) = W at *
    obtain ⟨c0, c1, c2, c3, c4, c5, c6, c7, c8, c9, c10, c11, c12, cf⟩ := act_cells HST.out.blk
    go_wp2_with (first | (go_at_call 23; go_must (with_reducible refine (itn_calls c Hc.out _ HST.out.glob).mono ?_; rintro e wk ⟨rfl, he⟩; have HS2 := Lib.hid (HST.out.more he); clear he; have HST := Lib.hid HS2.out; obtain ⟨c0, c1, c2, c3, c4, c5, c6, c7, c8, c9, c10, c11, c12, cf⟩ := act_cells HST.out.blk)) | (at_builtin; go_must (refine wst_push HST.out [bs (Lib.itoa c)] rfl _ _ rfl rfl rfl rfl rfl rfl (by simp) ?_); intro v' w5 hst; have HST := Lib.hid hst; clear hst))
    go_ret
    exact ⟨_, rfl, HST.out.own.lower (Nat.le_succ _), HST.out.ext⟩

set_option maxHeartbeats 2000000 in
theorem words_2 {B : Nat} (c o v i a b key ck : Int) (g : Bool) (dv : Value) (nm : Int) (fv : Value) (w : World) (hG : Glob B w) (hi : InK .i64 i) :
    Calls Tryz.prog 38 #[acVal 2 c o v i a b key ck g dv nm fv] w fun e w' => WordsR w (bs [99, 111, 109, 101] :: [bs (Lib.itoa i)]) e w' := by
  have Hi := Lib.hid hi
  clear hi
  go_enter Tryz.func38, Tryz.ntmps38
  go_wp2_with fail
  have HN := Lib.hid (heap_alloc_new w (Obj.cells #[Value.int IntKind.i64 2, Value.int IntKind.i64 c, Value.int IntKind.i64 o, Value.int IntKind.i64 v, Value.int IntKind.i64 i, Value.int IntKind.i64 a, Value.int IntKind.i64 b, Value.int IntKind.u64 key, Value.int IntKind.u32 ck, Value.bool g, dv, Value.int IntKind.i64 nm, fv] 56))
  go_region_law ((go_simp; go_at_call 36; (with_reducible refine (names_calls2 _).mono ?_); rintro e wn ⟨rfl, rfl⟩))
  all_goals
    have HST := Lib.hid (WSt.first hG #[Value.int IntKind.i64 2, Value.int IntKind.i64 c, Value.int IntKind.i64 o, Value.int IntKind.i64 v, Value.int IntKind.i64 i, Value.int IntKind.i64 a, Value.int IntKind.i64 b, Value.int IntKind.u64 key, Value.int IntKind.u32 ck, Value.bool g, dv, Value.int IntKind.i64 nm, fv] nameArr (bs [99, 111, 109, 101]))
    generalize ((((w.alloc _).alloc _).alloc _).drew) = W at *
    obtain ⟨c0, c1, c2, c3, c4, c5, c6, c7, c8, c9, c10, c11, c12, cf⟩ := act_cells HST.out.blk
    go_wp2_with (first | (go_at_call 23; go_must (with_reducible refine (itn_calls i Hi.out _ HST.out.glob).mono ?_; rintro e wk ⟨rfl, he⟩; have HS2 := Lib.hid (HST.out.more he); clear he; have HST := Lib.hid HS2.out; obtain ⟨c0, c1, c2, c3, c4, c5, c6, c7, c8, c9, c10, c11, c12, cf⟩ := act_cells HST.out.blk)) | (at_builtin; go_must (refine wst_push HST.out [bs (Lib.itoa i)] rfl _ _ rfl rfl rfl rfl rfl rfl (by simp) ?_); intro v' w5 hst; have HST := Lib.hid hst; clear hst))
    go_ret
    exact ⟨_, rfl, HST.out.own.lower (Nat.le_succ _), HST.out.ext⟩

set_option maxHeartbeats 2000000 in
theorem words_3 {B : Nat} (c o v i a b key ck : Int) (g : Bool) (dv : Value) (nm : Int) (fv : Value) (w : World) (hG : Glob B w) (hi : InK .i64 i) :
    Calls Tryz.prog 38 #[acVal 3 c o v i a b key ck g dv nm fv] w fun e w' => WordsR w (bs [108, 111, 115, 101] :: [bs (Lib.itoa i)]) e w' := by
  have Hi := Lib.hid hi
  clear hi
  go_enter Tryz.func38, Tryz.ntmps38
  go_wp2_with fail
  have HN := Lib.hid (heap_alloc_new w (Obj.cells #[Value.int IntKind.i64 3, Value.int IntKind.i64 c, Value.int IntKind.i64 o, Value.int IntKind.i64 v, Value.int IntKind.i64 i, Value.int IntKind.i64 a, Value.int IntKind.i64 b, Value.int IntKind.u64 key, Value.int IntKind.u32 ck, Value.bool g, dv, Value.int IntKind.i64 nm, fv] 56))
  go_region_law ((go_simp; go_at_call 36; (with_reducible refine (names_calls2 _).mono ?_); rintro e wn ⟨rfl, rfl⟩))
  all_goals
    have HST := Lib.hid (WSt.first hG #[Value.int IntKind.i64 3, Value.int IntKind.i64 c, Value.int IntKind.i64 o, Value.int IntKind.i64 v, Value.int IntKind.i64 i, Value.int IntKind.i64 a, Value.int IntKind.i64 b, Value.int IntKind.u64 key, Value.int IntKind.u32 ck, Value.bool g, dv, Value.int IntKind.i64 nm, fv] nameArr (bs [108, 111, 115, 101]))
    generalize ((((w.alloc _).alloc _).alloc _).drew) = W at *
    obtain ⟨c0, c1, c2, c3, c4, c5, c6, c7, c8, c9, c10, c11, c12, cf⟩ := act_cells HST.out.blk
    go_wp2_with (first | (go_at_call 23; go_must (with_reducible refine (itn_calls i Hi.out _ HST.out.glob).mono ?_; rintro e wk ⟨rfl, he⟩; have HS2 := Lib.hid (HST.out.more he); clear he; have HST := Lib.hid HS2.out; obtain ⟨c0, c1, c2, c3, c4, c5, c6, c7, c8, c9, c10, c11, c12, cf⟩ := act_cells HST.out.blk)) | (at_builtin; go_must (refine wst_push HST.out [bs (Lib.itoa i)] rfl _ _ rfl rfl rfl rfl rfl rfl (by simp) ?_); intro v' w5 hst; have HST := Lib.hid hst; clear hst))
    go_ret
    exact ⟨_, rfl, HST.out.own.lower (Nat.le_succ _), HST.out.ext⟩

set_option maxHeartbeats 2000000 in
theorem words_4 {B : Nat} (c o v i a b key ck : Int) (g : Bool) (dv : Value) (nm : Int) (fv : Value) (w : World) (hG : Glob B w) (hi : InK .i64 i) :
    Calls Tryz.prog 38 #[acVal 4 c o v i a b key ck g dv nm fv] w fun e w' => WordsR w (bs [116, 119, 105, 99, 101] :: [bs (Lib.itoa i)]) e w' := by
  have Hi := Lib.hid hi
  clear hi
  go_enter Tryz.func38, Tryz.ntmps38
  go_wp2_with fail
  have HN := Lib.hid (heap_alloc_new w (Obj.cells #[Value.int IntKind.i64 4, Value.int IntKind.i64 c, Value.int IntKind.i64 o, Value.int IntKind.i64 v, Value.int IntKind.i64 i, Value.int IntKind.i64 a, Value.int IntKind.i64 b, Value.int IntKind.u64 key, Value.int IntKind.u32 ck, Value.bool g, dv, Value.int IntKind.i64 nm, fv] 56))
  go_region_law ((go_simp; go_at_call 36; (with_reducible refine (names_calls2 _).mono ?_); rintro e wn ⟨rfl, rfl⟩))
  all_goals
    have HST := Lib.hid (WSt.first hG #[Value.int IntKind.i64 4, Value.int IntKind.i64 c, Value.int IntKind.i64 o, Value.int IntKind.i64 v, Value.int IntKind.i64 i, Value.int IntKind.i64 a, Value.int IntKind.i64 b, Value.int IntKind.u64 key, Value.int IntKind.u32 ck, Value.bool g, dv, Value.int IntKind.i64 nm, fv] nameArr (bs [116, 119, 105, 99, 101]))
    generalize ((((w.alloc _).alloc _).alloc _).drew) = W at *
    obtain ⟨c0, c1, c2, c3, c4, c5, c6, c7, c8, c9, c10, c11, c12, cf⟩ := act_cells HST.out.blk
    go_wp2_with (first | (go_at_call 23; go_must (with_reducible refine (itn_calls i Hi.out _ HST.out.glob).mono ?_; rintro e wk ⟨rfl, he⟩; have HS2 := Lib.hid (HST.out.more he); clear he; have HST := Lib.hid HS2.out; obtain ⟨c0, c1, c2, c3, c4, c5, c6, c7, c8, c9, c10, c11, c12, cf⟩ := act_cells HST.out.blk)) | (at_builtin; go_must (refine wst_push HST.out [bs (Lib.itoa i)] rfl _ _ rfl rfl rfl rfl rfl rfl (by simp) ?_); intro v' w5 hst; have HST := Lib.hid hst; clear hst))
    go_ret
    exact ⟨_, rfl, HST.out.own.lower (Nat.le_succ _), HST.out.ext⟩

set_option maxHeartbeats 2000000 in
theorem words_10 {B : Nat} (c o v i a b key ck : Int) (g : Bool) (dv : Value) (nm : Int) (fv : Value) (w : World) (hG : Glob B w) (ha : InK .i64 a) :
    Calls Tryz.prog 38 #[acVal 10 c o v i a b key ck g dv nm fv] w fun e w' => WordsR w (bs [115, 116, 97, 114, 116] :: [bs (Lib.itoa a)]) e w' := by
  have Ha := Lib.hid ha
  clear ha
  go_enter Tryz.func38, Tryz.ntmps38
  go_wp2_with fail
  have HN := Lib.hid (heap_alloc_new w (Obj.cells #[Value.int IntKind.i64 10, Value.int IntKind.i64 c, Value.int IntKind.i64 o, Value.int IntKind.i64 v, Value.int IntKind.i64 i, Value.int IntKind.i64 a, Value.int IntKind.i64 b, Value.int IntKind.u64 key, Value.int IntKind.u32 ck, Value.bool g, dv, Value.int IntKind.i64 nm, fv] 56))
  go_region_law ((go_simp; go_at_call 36; (with_reducible refine (names_calls2 _).mono ?_); rintro e wn ⟨rfl, rfl⟩))
  all_goals
    have HST := Lib.hid (WSt.first hG #[Value.int IntKind.i64 10, Value.int IntKind.i64 c, Value.int IntKind.i64 o, Value.int IntKind.i64 v, Value.int IntKind.i64 i, Value.int IntKind.i64 a, Value.int IntKind.i64 b, Value.int IntKind.u64 key, Value.int IntKind.u32 ck, Value.bool g, dv, Value.int IntKind.i64 nm, fv] nameArr (bs [115, 116, 97, 114, 116]))
    generalize ((((w.alloc _).alloc _).alloc _).drew) = W at *
    obtain ⟨c0, c1, c2, c3, c4, c5, c6, c7, c8, c9, c10, c11, c12, cf⟩ := act_cells HST.out.blk
    go_wp2_with (first | (go_at_call 23; go_must (with_reducible refine (itn_calls a Ha.out _ HST.out.glob).mono ?_; rintro e wk ⟨rfl, he⟩; have HS2 := Lib.hid (HST.out.more he); clear he; have HST := Lib.hid HS2.out; obtain ⟨c0, c1, c2, c3, c4, c5, c6, c7, c8, c9, c10, c11, c12, cf⟩ := act_cells HST.out.blk)) | (at_builtin; go_must (refine wst_push HST.out [bs (Lib.itoa a)] rfl _ _ rfl rfl rfl rfl rfl rfl (by simp) ?_); intro v' w5 hst; have HST := Lib.hid hst; clear hst))
    go_ret
    exact ⟨_, rfl, HST.out.own.lower (Nat.le_succ _), HST.out.ext⟩
end Go.Proofs.YtjipffbnndbchaaGreatDoor
