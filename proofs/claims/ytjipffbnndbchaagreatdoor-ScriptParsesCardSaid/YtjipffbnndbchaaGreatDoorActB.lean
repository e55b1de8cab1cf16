/- The walks of script: the act of words, kinds [5, 6, 7, 8]. Printed by gen_act.py. -/
import Derived.Test.YtjipffbnndbchaaGreatDoorScrD
namespace Go.Proofs.YtjipffbnndbchaaGreatDoor
open Go.RowKit
set_option maxRecDepth 100000

set_option maxHeartbeats 2000000 in
theorem act_5 {B : Nat} (a : Option Addr) (l : List ByteArray) (cap : Nat) (w : World) (hr : Row Kd.str w (fun _ => True) a cap l) (hs : Small l) (hG : Glob B w) (k : Int) (x : ByteArray) (b : Bool) (hx : l.headD (bs []) = x) (hb : (false || l.isEmpty) = b) (hk : k = Lib.idxOfS nameList x) (h1 : k = 5) :
    Calls Tryz.prog 37 #[.slice a l.length cap] w fun e w' => ActR w { kind := 5, a := (rNum (l.tail, b)).1, b := (rNum (rNum (l.tail, b)).2).1 } (rNum (rNum (l.tail, b)).2).2 e w' := by
  have hi := next_calls _ _ _ _ (rdr_init hr)
  rw [hx, hb] at hi
  have HI := Lib.hid hi
  clear hi
  have HINIT := Lib.hid (fun wi b h1 h2 cs => RSt.init (wi := wi) (b := b) (a := a) (cap := cap) hG hs h1 h2 cs)
  clear hr hs hG hx hb
  subst h1
  have HK := Lib.hid hk
  clear hk
  go_enter Tryz.func37, Tryz.ntmps37
  go_wp2_with (first | (go_at_call 36; go_must (with_reducible refine (names_calls _).mono ?_); rintro e wn ⟨rfl, rfl⟩) | (go_at_call 59; go_must (with_reducible refine HI.out.mono ?_); rintro e wa ⟨rfl, hst, ho⟩; have HS := Lib.hid (HINIT.out wa _ hst ho); have hnb : wa.heap[w.heap.size + 1 + 1]? = some (.cells (nameList.map Value.string).toArray 9 (0, 0)) := (by have h9 := (ho.block _ (by first | (simp; done) | (simp; omega)) (by first | (simp; done) | (simp; omega))).trans (heap_alloc_new ((w.alloc (Obj.cells cs0 56)).alloc (Obj.cells #[Value.slice a l.length cap, Value.bool false] 123)) (Obj.cells (nameList.map Value.string).toArray 9)); simpa using h9); have HNB := Lib.hid hnb; clear hnb hst ho) | (go_at_call 58; go_must (with_reducible refine (index_calls _ _ HK.out _ _ HNB.out).mono ?_); rintro e wi ⟨rfl, rfl⟩) | (go_at_call 60; go_must (with_reducible refine (st_num (by first | with_reducible exact HST.out | with_reducible exact HS.out _)).mono ?_); rintro e wk ⟨rfl, hst⟩; have HST := Lib.hid hst; obtain ⟨c0, c1, c2, c3, c4, c5, c6, c7, c8, c9, c10, c11, c12, cf⟩ := act_cells hst.blk; obtain ⟨ra, rcap, bb, nn, hbb, hnn, r0, r1, rf⟩ := hst.reader; have HBB := Lib.hid hbb; have HNN := Lib.hid hnn; clear hst hbb hnn))
  have hst := ((HST.out.setA 5 (Value.int IntKind.i64 (rNum (l.tail, b)).1)).setA 6 (Value.int IntKind.i64 (rNum (rNum (l.tail, b)).2).1)); simp only [List.setIfInBounds_toArray, List.set_cons_succ, List.set_cons_zero] at hst; have HST := Lib.hid hst; clear c0 c1 c2 c3 c4 c5 c6 c7 c8 c9 c10 c11 c12 cf r0 r1 rf; obtain ⟨c0, c1, c2, c3, c4, c5, c6, c7, c8, c9, c10, c11, c12, cf⟩ := act_cells hst.blk; obtain ⟨ra, rcap, bb, nn, hbb, hnn, r0, r1, rf⟩ := hst.reader; have HBB := Lib.hid hbb; have HNN := Lib.hid hnn; clear hst hbb hnn
  obtain ⟨e0, e1, e2, e3, e4, e5, e6, e7, e8, e9, e10, e11, e12, ef⟩ := act_cells HST.out.res
  generalize ((wk.setCell ⟨wi.heap.size, 5, none⟩ (Value.int IntKind.i64 (rNum (l.tail, b)).1)).setCell ⟨wi.heap.size, 6, none⟩ (Value.int IntKind.i64 (rNum (rNum (l.tail, b)).2).1)) = wf at *
  cases bb
  · go_region
    go_wp2
    refine bodyPost_ret (v := .tuple #[.agg #[.int .i64 5, .int .i64 0, .int .i64 0, .int .i64 0, .int .i64 0, .int .i64 (rNum (l.tail, b)).1, .int .i64 (rNum (rNum (l.tail, b)).2).1, .int .u64 0, .int .u32 0, .bool false, .slice none 0 0, .int .i64 0, .slice none 0 0], .bool ((nn : Int) == 0)]) (by simp [results, Tryz.results37, go_sem, *]) rfl ?_
    refine ⟨.agg #[.int .i64 5, .int .i64 0, .int .i64 0, .int .i64 0, .int .i64 0, .int .i64 (rNum (l.tail, b)).1, .int .i64 (rNum (rNum (l.tail, b)).2).1, .int .u64 0, .int .u32 0, .bool false, .slice none 0 0, .int .i64 0, .slice none 0 0], { kind := 5, a := (rNum (l.tail, b)).1, b := (rNum (rNum (l.tail, b)).2).1 }, ?_, ⟨_, _, rfl, Own.nil_ _ _ _, Own.nil_ _ _ _⟩, fun _ => rfl, ?_⟩
    focus (refine congrArg Ending.returned ?_; first | (rw [ok_of HBB.out HNN.out]; simp; done) | (rw [ok_of HBB.out HNN.out]; simp [nat0]; done) | (simp; done))
    exact (((((((((((((HST.out.ext.set (Nat.le_refl _) _).set (Nat.le_refl _) _).set (Nat.le_refl _) _).set (Nat.le_refl _) _).set (Nat.le_refl _) _).set (Nat.le_refl _) _).set (Nat.le_refl _) _).set (Nat.le_refl _) _).set (Nat.le_refl _) _).set (Nat.le_refl _) _).set (Nat.le_refl _) _).set (Nat.le_refl _) _).set (Nat.le_refl _) _).drew
  · go_region
    go_wp2
    refine bodyPost_ret (v := .tuple #[.agg #[.int .i64 5, .int .i64 0, .int .i64 0, .int .i64 0, .int .i64 0, .int .i64 (rNum (l.tail, b)).1, .int .i64 (rNum (rNum (l.tail, b)).2).1, .int .u64 0, .int .u32 0, .bool false, .slice none 0 0, .int .i64 0, .slice none 0 0], .bool false]) (by simp [results, Tryz.results37, go_sem, *]) rfl ?_
    refine ⟨.agg #[.int .i64 5, .int .i64 0, .int .i64 0, .int .i64 0, .int .i64 0, .int .i64 (rNum (l.tail, b)).1, .int .i64 (rNum (rNum (l.tail, b)).2).1, .int .u64 0, .int .u32 0, .bool false, .slice none 0 0, .int .i64 0, .slice none 0 0], { kind := 5, a := (rNum (l.tail, b)).1, b := (rNum (rNum (l.tail, b)).2).1 }, ?_, ⟨_, _, rfl, Own.nil_ _ _ _, Own.nil_ _ _ _⟩, fun _ => rfl, ?_⟩
    focus (refine congrArg Ending.returned ?_; first | (rw [ok_of HBB.out HNN.out]; simp; done) | (rw [ok_of HBB.out HNN.out]; simp [nat0]; done) | (simp; done))
    exact (((((((((((((HST.out.ext.set (Nat.le_refl _) _).set (Nat.le_refl _) _).set (Nat.le_refl _) _).set (Nat.le_refl _) _).set (Nat.le_refl _) _).set (Nat.le_refl _) _).set (Nat.le_refl _) _).set (Nat.le_refl _) _).set (Nat.le_refl _) _).set (Nat.le_refl _) _).set (Nat.le_refl _) _).set (Nat.le_refl _) _).set (Nat.le_refl _) _).drew

set_option maxHeartbeats 2000000 in
theorem act_6 {B : Nat} (a : Option Addr) (l : List ByteArray) (cap : Nat) (w : World) (hr : Row Kd.str w (fun _ => True) a cap l) (hs : Small l) (hG : Glob B w) (k : Int) (x : ByteArray) (b : Bool) (hx : l.headD (bs []) = x) (hb : (false || l.isEmpty) = b) (hk : k = Lib.idxOfS nameList x) (h1 : k = 6) :
    Calls Tryz.prog 37 #[.slice a l.length cap] w fun e w' => ActR w { kind := 6, a := (rNum (l.tail, b)).1, b := (rNum (rNum (l.tail, b)).2).1 } (rNum (rNum (l.tail, b)).2).2 e w' := by
  have hi := next_calls _ _ _ _ (rdr_init hr)
  rw [hx, hb] at hi
  have HI := Lib.hid hi
  clear hi
  have HINIT := Lib.hid (fun wi b h1 h2 cs => RSt.init (wi := wi) (b := b) (a := a) (cap := cap) hG hs h1 h2 cs)
  clear hr hs hG hx hb
  subst h1
  have HK := Lib.hid hk
  clear hk
  go_enter Tryz.func37, Tryz.ntmps37
  go_wp2_with (first | (go_at_call 36; go_must (with_reducible refine (names_calls _).mono ?_); rintro e wn ⟨rfl, rfl⟩) | (go_at_call 59; go_must (with_reducible refine HI.out.mono ?_); rintro e wa ⟨rfl, hst, ho⟩; have HS := Lib.hid (HINIT.out wa _ hst ho); have hnb : wa.heap[w.heap.size + 1 + 1]? = some (.cells (nameList.map Value.string).toArray 9 (0, 0)) := (by have h9 := (ho.block _ (by first | (simp; done) | (simp; omega)) (by first | (simp; done) | (simp; omega))).trans (heap_alloc_new ((w.alloc (Obj.cells cs0 56)).alloc (Obj.cells #[Value.slice a l.length cap, Value.bool false] 123)) (Obj.cells (nameList.map Value.string).toArray 9)); simpa using h9); have HNB := Lib.hid hnb; clear hnb hst ho) | (go_at_call 58; go_must (with_reducible refine (index_calls _ _ HK.out _ _ HNB.out).mono ?_); rintro e wi ⟨rfl, rfl⟩) | (go_at_call 60; go_must (with_reducible refine (st_num (by first | with_reducible exact HST.out | with_reducible exact HS.out _)).mono ?_); rintro e wk ⟨rfl, hst⟩; have HST := Lib.hid hst; obtain ⟨c0, c1, c2, c3, c4, c5, c6, c7, c8, c9, c10, c11, c12, cf⟩ := act_cells hst.blk; obtain ⟨ra, rcap, bb, nn, hbb, hnn, r0, r1, rf⟩ := hst.reader; have HBB := Lib.hid hbb; have HNN := Lib.hid hnn; clear hst hbb hnn))
  have hst := ((HST.out.setA 5 (Value.int IntKind.i64 (rNum (l.tail, b)).1)).setA 6 (Value.int IntKind.i64 (rNum (rNum (l.tail, b)).2).1)); simp only [List.setIfInBounds_toArray, List.set_cons_succ, List.set_cons_zero] at hst; have HST := Lib.hid hst; clear c0 c1 c2 c3 c4 c5 c6 c7 c8 c9 c10 c11 c12 cf r0 r1 rf; obtain ⟨c0, c1, c2, c3, c4, c5, c6, c7, c8, c9, c10, c11, c12, cf⟩ := act_cells hst.blk; obtain ⟨ra, rcap, bb, nn, hbb, hnn, r0, r1, rf⟩ := hst.reader; have HBB := Lib.hid hbb; have HNN := Lib.hid hnn; clear hst hbb hnn
  obtain ⟨e0, e1, e2, e3, e4, e5, e6, e7, e8, e9, e10, e11, e12, ef⟩ := act_cells HST.out.res
  generalize ((wk.setCell ⟨wi.heap.size, 5, none⟩ (Value.int IntKind.i64 (rNum (l.tail, b)).1)).setCell ⟨wi.heap.size, 6, none⟩ (Value.int IntKind.i64 (rNum (rNum (l.tail, b)).2).1)) = wf at *
  cases bb
  · go_region
    go_wp2
    refine bodyPost_ret (v := .tuple #[.agg #[.int .i64 6, .int .i64 0, .int .i64 0, .int .i64 0, .int .i64 0, .int .i64 (rNum (l.tail, b)).1, .int .i64 (rNum (rNum (l.tail, b)).2).1, .int .u64 0, .int .u32 0, .bool false, .slice none 0 0, .int .i64 0, .slice none 0 0], .bool ((nn : Int) == 0)]) (by simp [results, Tryz.results37, go_sem, *]) rfl ?_
    refine ⟨.agg #[.int .i64 6, .int .i64 0, .int .i64 0, .int .i64 0, .int .i64 0, .int .i64 (rNum (l.tail, b)).1, .int .i64 (rNum (rNum (l.tail, b)).2).1, .int .u64 0, .int .u32 0, .bool false, .slice none 0 0, .int .i64 0, .slice none 0 0], { kind := 6, a := (rNum (l.tail, b)).1, b := (rNum (rNum (l.tail, b)).2).1 }, ?_, ⟨_, _, rfl, Own.nil_ _ _ _, Own.nil_ _ _ _⟩, fun _ => rfl, ?_⟩
    focus (refine congrArg Ending.returned ?_; first | (rw [ok_of HBB.out HNN.out]; simp; done) | (rw [ok_of HBB.out HNN.out]; simp [nat0]; done) | (simp; done))
    exact (((((((((((((HST.out.ext.set (Nat.le_refl _) _).set (Nat.le_refl _) _).set (Nat.le_refl _) _).set (Nat.le_refl _) _).set (Nat.le_refl _) _).set (Nat.le_refl _) _).set (Nat.le_refl _) _).set (Nat.le_refl _) _).set (Nat.le_refl _) _).set (Nat.le_refl _) _).set (Nat.le_refl _) _).set (Nat.le_refl _) _).set (Nat.le_refl _) _).drew
  · go_region
    go_wp2
    refine bodyPost_ret (v := .tuple #[.agg #[.int .i64 6, .int .i64 0, .int .i64 0, .int .i64 0, .int .i64 0, .int .i64 (rNum (l.tail, b)).1, .int .i64 (rNum (rNum (l.tail, b)).2).1, .int .u64 0, .int .u32 0, .bool false, .slice none 0 0, .int .i64 0, .slice none 0 0], .bool false]) (by simp [results, Tryz.results37, go_sem, *]) rfl ?_
    refine ⟨.agg #[.int .i64 6, .int .i64 0, .int .i64 0, .int .i64 0, .int .i64 0, .int .i64 (rNum (l.tail, b)).1, .int .i64 (rNum (rNum (l.tail, b)).2).1, .int .u64 0, .int .u32 0, .bool false, .slice none 0 0, .int .i64 0, .slice none 0 0], { kind := 6, a := (rNum (l.tail, b)).1, b := (rNum (rNum (l.tail, b)).2).1 }, ?_, ⟨_, _, rfl, Own.nil_ _ _ _, Own.nil_ _ _ _⟩, fun _ => rfl, ?_⟩
    focus (refine congrArg Ending.returned ?_; first | (rw [ok_of HBB.out HNN.out]; simp; done) | (rw [ok_of HBB.out HNN.out]; simp [nat0]; done) | (simp; done))
    exact (((((((((((((HST.out.ext.set (Nat.le_refl _) _).set (Nat.le_refl _) _).set (Nat.le_refl _) _).set (Nat.le_refl _) _).set (Nat.le_refl _) _).set (Nat.le_refl _) _).set (Nat.le_refl _) _).set (Nat.le_refl _) _).set (Nat.le_refl _) _).set (Nat.le_refl _) _).set (Nat.le_refl _) _).set (Nat.le_refl _) _).set (Nat.le_refl _) _).drew

set_option maxHeartbeats 2000000 in
theorem act_7 {B : Nat} (a : Option Addr) (l : List ByteArray) (cap : Nat) (w : World) (hr : Row Kd.str w (fun _ => True) a cap l) (hs : Small l) (hG : Glob B w) (k : Int) (x : ByteArray) (b : Bool) (hx : l.headD (bs []) = x) (hb : (false || l.isEmpty) = b) (hk : k = Lib.idxOfS nameList x) (h1 : k = 7) :
    Calls Tryz.prog 37 #[.slice a l.length cap] w fun e w' => ActR w { kind := 7, a := (rNum (l.tail, b)).1, op := (rNum (rNum (l.tail, b)).2).1, v := (rNum (rNum (rNum (l.tail, b)).2).2).1 } (rNum (rNum (rNum (l.tail, b)).2).2).2 e w' := by
  have hi := next_calls _ _ _ _ (rdr_init hr)
  rw [hx, hb] at hi
  have HI := Lib.hid hi
  clear hi
  have HINIT := Lib.hid (fun wi b h1 h2 cs => RSt.init (wi := wi) (b := b) (a := a) (cap := cap) hG hs h1 h2 cs)
  clear hr hs hG hx hb
  subst h1
  have HK := Lib.hid hk
  clear hk
  go_enter Tryz.func37, Tryz.ntmps37
  go_wp2_with (first | (go_at_call 36; go_must (with_reducible refine (names_calls _).mono ?_); rintro e wn ⟨rfl, rfl⟩) | (go_at_call 59; go_must (with_reducible refine HI.out.mono ?_); rintro e wa ⟨rfl, hst, ho⟩; have HS := Lib.hid (HINIT.out wa _ hst ho); have hnb : wa.heap[w.heap.size + 1 + 1]? = some (.cells (nameList.map Value.string).toArray 9 (0, 0)) := (by have h9 := (ho.block _ (by first | (simp; done) | (simp; omega)) (by first | (simp; done) | (simp; omega))).trans (heap_alloc_new ((w.alloc (Obj.cells cs0 56)).alloc (Obj.cells #[Value.slice a l.length cap, Value.bool false] 123)) (Obj.cells (nameList.map Value.string).toArray 9)); simpa using h9); have HNB := Lib.hid hnb; clear hnb hst ho) | (go_at_call 58; go_must (with_reducible refine (index_calls _ _ HK.out _ _ HNB.out).mono ?_); rintro e wi ⟨rfl, rfl⟩) | (go_at_call 60; go_must (with_reducible refine (st_num (by first | with_reducible exact HST.out | with_reducible exact HS.out _)).mono ?_); rintro e wk ⟨rfl, hst⟩; have HST := Lib.hid hst; obtain ⟨c0, c1, c2, c3, c4, c5, c6, c7, c8, c9, c10, c11, c12, cf⟩ := act_cells hst.blk; obtain ⟨ra, rcap, bb, nn, hbb, hnn, r0, r1, rf⟩ := hst.reader; have HBB := Lib.hid hbb; have HNN := Lib.hid hnn; clear hst hbb hnn))
  have hst := (((HST.out.setA 5 (Value.int IntKind.i64 (rNum (l.tail, b)).1)).setA 2 (Value.int IntKind.i64 (rNum (rNum (l.tail, b)).2).1)).setA 3 (Value.int IntKind.i64 (rNum (rNum (rNum (l.tail, b)).2).2).1)); simp only [List.setIfInBounds_toArray, List.set_cons_succ, List.set_cons_zero] at hst; have HST := Lib.hid hst; clear c0 c1 c2 c3 c4 c5 c6 c7 c8 c9 c10 c11 c12 cf r0 r1 rf; obtain ⟨c0, c1, c2, c3, c4, c5, c6, c7, c8, c9, c10, c11, c12, cf⟩ := act_cells hst.blk; obtain ⟨ra, rcap, bb, nn, hbb, hnn, r0, r1, rf⟩ := hst.reader; have HBB := Lib.hid hbb; have HNN := Lib.hid hnn; clear hst hbb hnn
  obtain ⟨e0, e1, e2, e3, e4, e5, e6, e7, e8, e9, e10, e11, e12, ef⟩ := act_cells HST.out.res
  generalize (((wk.setCell ⟨wi.heap.size, 5, none⟩ (Value.int IntKind.i64 (rNum (l.tail, b)).1)).setCell ⟨wi.heap.size, 2, none⟩ (Value.int IntKind.i64 (rNum (rNum (l.tail, b)).2).1)).setCell ⟨wi.heap.size, 3, none⟩ (Value.int IntKind.i64 (rNum (rNum (rNum (l.tail, b)).2).2).1)) = wf at *
  cases bb
  · go_region
    go_wp2
    refine bodyPost_ret (v := .tuple #[.agg #[.int .i64 7, .int .i64 0, .int .i64 (rNum (rNum (l.tail, b)).2).1, .int .i64 (rNum (rNum (rNum (l.tail, b)).2).2).1, .int .i64 0, .int .i64 (rNum (l.tail, b)).1, .int .i64 0, .int .u64 0, .int .u32 0, .bool false, .slice none 0 0, .int .i64 0, .slice none 0 0], .bool ((nn : Int) == 0)]) (by simp [results, Tryz.results37, go_sem, *]) rfl ?_
    refine ⟨.agg #[.int .i64 7, .int .i64 0, .int .i64 (rNum (rNum (l.tail, b)).2).1, .int .i64 (rNum (rNum (rNum (l.tail, b)).2).2).1, .int .i64 0, .int .i64 (rNum (l.tail, b)).1, .int .i64 0, .int .u64 0, .int .u32 0, .bool false, .slice none 0 0, .int .i64 0, .slice none 0 0], { kind := 7, a := (rNum (l.tail, b)).1, op := (rNum (rNum (l.tail, b)).2).1, v := (rNum (rNum (rNum (l.tail, b)).2).2).1 }, ?_, ⟨_, _, rfl, Own.nil_ _ _ _, Own.nil_ _ _ _⟩, fun _ => rfl, ?_⟩
    focus (refine congrArg Ending.returned ?_; first | (rw [ok_of HBB.out HNN.out]; simp; done) | (rw [ok_of HBB.out HNN.out]; simp [nat0]; done) | (simp; done))
    exact (((((((((((((HST.out.ext.set (Nat.le_refl _) _).set (Nat.le_refl _) _).set (Nat.le_refl _) _).set (Nat.le_refl _) _).set (Nat.le_refl _) _).set (Nat.le_refl _) _).set (Nat.le_refl _) _).set (Nat.le_refl _) _).set (Nat.le_refl _) _).set (Nat.le_refl _) _).set (Nat.le_refl _) _).set (Nat.le_refl _) _).set (Nat.le_refl _) _).drew
  · go_region
    go_wp2
    refine bodyPost_ret (v := .tuple #[.agg #[.int .i64 7, .int .i64 0, .int .i64 (rNum (rNum (l.tail, b)).2).1, .int .i64 (rNum (rNum (rNum (l.tail, b)).2).2).1, .int .i64 0, .int .i64 (rNum (l.tail, b)).1, .int .i64 0, .int .u64 0, .int .u32 0, .bool false, .slice none 0 0, .int .i64 0, .slice none 0 0], .bool false]) (by simp [results, Tryz.results37, go_sem, *]) rfl ?_
    refine ⟨.agg #[.int .i64 7, .int .i64 0, .int .i64 (rNum (rNum (l.tail, b)).2).1, .int .i64 (rNum (rNum (rNum (l.tail, b)).2).2).1, .int .i64 0, .int .i64 (rNum (l.tail, b)).1, .int .i64 0, .int .u64 0, .int .u32 0, .bool false, .slice none 0 0, .int .i64 0, .slice none 0 0], { kind := 7, a := (rNum (l.tail, b)).1, op := (rNum (rNum (l.tail, b)).2).1, v := (rNum (rNum (rNum (l.tail, b)).2).2).1 }, ?_, ⟨_, _, rfl, Own.nil_ _ _ _, Own.nil_ _ _ _⟩, fun _ => rfl, ?_⟩
    focus (refine congrArg Ending.returned ?_; first | (rw [ok_of HBB.out HNN.out]; simp; done) | (rw [ok_of HBB.out HNN.out]; simp [nat0]; done) | (simp; done))
    exact (((((((((((((HST.out.ext.set (Nat.le_refl _) _).set (Nat.le_refl _) _).set (Nat.le_refl _) _).set (Nat.le_refl _) _).set (Nat.le_refl _) _).set (Nat.le_refl _) _).set (Nat.le_refl _) _).set (Nat.le_refl _) _).set (Nat.le_refl _) _).set (Nat.le_refl _) _).set (Nat.le_refl _) _).set (Nat.le_refl _) _).set (Nat.le_refl _) _).drew

set_option maxHeartbeats 2000000 in
theorem act_8 {B : Nat} (a : Option Addr) (l : List ByteArray) (cap : Nat) (w : World) (hr : Row Kd.str w (fun _ => True) a cap l) (hs : Small l) (hG : Glob B w) (k : Int) (x : ByteArray) (b : Bool) (hx : l.headD (bs []) = x) (hb : (false || l.isEmpty) = b) (hk : k = Lib.idxOfS nameList x) (h1 : k = 8) :
    Calls Tryz.prog 37 #[.slice a l.length cap] w fun e w' => ActR w { kind := 8, a := (rNum (l.tail, b)).1, i := (rNum (rNum (l.tail, b)).2).1 } (rNum (rNum (l.tail, b)).2).2 e w' := by
  have hi := next_calls _ _ _ _ (rdr_init hr)
  rw [hx, hb] at hi
  have HI := Lib.hid hi
  clear hi
  have HINIT := Lib.hid (fun wi b h1 h2 cs => RSt.init (wi := wi) (b := b) (a := a) (cap := cap) hG hs h1 h2 cs)
  clear hr hs hG hx hb
  subst h1
  have HK := Lib.hid hk
  clear hk
  go_enter Tryz.func37, Tryz.ntmps37
  go_wp2_with (first | (go_at_call 36; go_must (with_reducible refine (names_calls _).mono ?_); rintro e wn ⟨rfl, rfl⟩) | (go_at_call 59; go_must (with_reducible refine HI.out.mono ?_); rintro e wa ⟨rfl, hst, ho⟩; have HS := Lib.hid (HINIT.out wa _ hst ho); have hnb : wa.heap[w.heap.size + 1 + 1]? = some (.cells (nameList.map Value.string).toArray 9 (0, 0)) := (by have h9 := (ho.block _ (by first | (simp; done) | (simp; omega)) (by first | (simp; done) | (simp; omega))).trans (heap_alloc_new ((w.alloc (Obj.cells cs0 56)).alloc (Obj.cells #[Value.slice a l.length cap, Value.bool false] 123)) (Obj.cells (nameList.map Value.string).toArray 9)); simpa using h9); have HNB := Lib.hid hnb; clear hnb hst ho) | (go_at_call 58; go_must (with_reducible refine (index_calls _ _ HK.out _ _ HNB.out).mono ?_); rintro e wi ⟨rfl, rfl⟩) | (go_at_call 60; go_must (with_reducible refine (st_num (by first | with_reducible exact HST.out | with_reducible exact HS.out _)).mono ?_); rintro e wk ⟨rfl, hst⟩; have HST := Lib.hid hst; obtain ⟨c0, c1, c2, c3, c4, c5, c6, c7, c8, c9, c10, c11, c12, cf⟩ := act_cells hst.blk; obtain ⟨ra, rcap, bb, nn, hbb, hnn, r0, r1, rf⟩ := hst.reader; have HBB := Lib.hid hbb; have HNN := Lib.hid hnn; clear hst hbb hnn))
  have hst := ((HST.out.setA 5 (Value.int IntKind.i64 (rNum (l.tail, b)).1)).setA 4 (Value.int IntKind.i64 (rNum (rNum (l.tail, b)).2).1)); simp only [List.setIfInBounds_toArray, List.set_cons_succ, List.set_cons_zero] at hst; have HST := Lib.hid hst; clear c0 c1 c2 c3 c4 c5 c6 c7 c8 c9 c10 c11 c12 cf r0 r1 rf; obtain ⟨c0, c1, c2, c3, c4, c5, c6, c7, c8, c9, c10, c11, c12, cf⟩ := act_cells hst.blk; obtain ⟨ra, rcap, bb, nn, hbb, hnn, r0, r1, rf⟩ := hst.reader; have HBB := Lib.hid hbb; have HNN := Lib.hid hnn; clear hst hbb hnn
  obtain ⟨e0, e1, e2, e3, e4, e5, e6, e7, e8, e9, e10, e11, e12, ef⟩ := act_cells HST.out.res
  generalize ((wk.setCell ⟨wi.heap.size, 5, none⟩ (Value.int IntKind.i64 (rNum (l.tail, b)).1)).setCell ⟨wi.heap.size, 4, none⟩ (Value.int IntKind.i64 (rNum (rNum (l.tail, b)).2).1)) = wf at *
  cases bb
  · go_region
    go_wp2
    refine bodyPost_ret (v := .tuple #[.agg #[.int .i64 8, .int .i64 0, .int .i64 0, .int .i64 0, .int .i64 (rNum (rNum (l.tail, b)).2).1, .int .i64 (rNum (l.tail, b)).1, .int .i64 0, .int .u64 0, .int .u32 0, .bool false, .slice none 0 0, .int .i64 0, .slice none 0 0], .bool ((nn : Int) == 0)]) (by simp [results, Tryz.results37, go_sem, *]) rfl ?_
    refine ⟨.agg #[.int .i64 8, .int .i64 0, .int .i64 0, .int .i64 0, .int .i64 (rNum (rNum (l.tail, b)).2).1, .int .i64 (rNum (l.tail, b)).1, .int .i64 0, .int .u64 0, .int .u32 0, .bool false, .slice none 0 0, .int .i64 0, .slice none 0 0], { kind := 8, a := (rNum (l.tail, b)).1, i := (rNum (rNum (l.tail, b)).2).1 }, ?_, ⟨_, _, rfl, Own.nil_ _ _ _, Own.nil_ _ _ _⟩, fun _ => rfl, ?_⟩
    focus (refine congrArg Ending.returned ?_; first | (rw [ok_of HBB.out HNN.out]; simp; done) | (rw [ok_of HBB.out HNN.out]; simp [nat0]; done) | (simp; done))
    exact (((((((((((((HST.out.ext.set (Nat.le_refl _) _).set (Nat.le_refl _) _).set (Nat.le_refl _) _).set (Nat.le_refl _) _).set (Nat.le_refl _) _).set (Nat.le_refl _) _).set (Nat.le_refl _) _).set (Nat.le_refl _) _).set (Nat.le_refl _) _).set (Nat.le_refl _) _).set (Nat.le_refl _) _).set (Nat.le_refl _) _).set (Nat.le_refl _) _).drew
  · go_region
    go_wp2
    refine bodyPost_ret (v := .tuple #[.agg #[.int .i64 8, .int .i64 0, .int .i64 0, .int .i64 0, .int .i64 (rNum (rNum (l.tail, b)).2).1, .int .i64 (rNum (l.tail, b)).1, .int .i64 0, .int .u64 0, .int .u32 0, .bool false, .slice none 0 0, .int .i64 0, .slice none 0 0], .bool false]) (by simp [results, Tryz.results37, go_sem, *]) rfl ?_
    refine ⟨.agg #[.int .i64 8, .int .i64 0, .int .i64 0, .int .i64 0, .int .i64 (rNum (rNum (l.tail, b)).2).1, .int .i64 (rNum (l.tail, b)).1, .int .i64 0, .int .u64 0, .int .u32 0, .bool false, .slice none 0 0, .int .i64 0, .slice none 0 0], { kind := 8, a := (rNum (l.tail, b)).1, i := (rNum (rNum (l.tail, b)).2).1 }, ?_, ⟨_, _, rfl, Own.nil_ _ _ _, Own.nil_ _ _ _⟩, fun _ => rfl, ?_⟩
    focus (refine congrArg Ending.returned ?_; first | (rw [ok_of HBB.out HNN.out]; simp; done) | (rw [ok_of HBB.out HNN.out]; simp [nat0]; done) | (simp; done))
    exact (((((((((((((HST.out.ext.set (Nat.le_refl _) _).set (Nat.le_refl _) _).set (Nat.le_refl _) _).set (Nat.le_refl _) _).set (Nat.le_refl _) _).set (Nat.le_refl _) _).set (Nat.le_refl _) _).set (Nat.le_refl _) _).set (Nat.le_refl _) _).set (Nat.le_refl _) _).set (Nat.le_refl _) _).set (Nat.le_refl _) _).set (Nat.le_refl _) _).drew
end Go.Proofs.YtjipffbnndbchaaGreatDoor
