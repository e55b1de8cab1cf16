/- The walks of script: the act of words, kinds [1, 2, 3, 4, 10, 11]. Printed by gen_act.py. -/
import Derived.Test.YtjipffbnndbchaaGreatDoorScrD
namespace Go.Proofs.YtjipffbnndbchaaGreatDoor
open Go.RowKit
set_option maxRecDepth 100000

set_option maxHeartbeats 2000000 in
theorem act_1 {B : Nat} (a : Option Addr) (l : List ByteArray) (cap : Nat) (w : World) (hr : Row Kd.str w (fun _ => True) a cap l) (hs : Small l) (hG : Glob B w) (k : Int) (x : ByteArray) (b : Bool) (hx : l.headD (bs []) = x) (hb : (false || l.isEmpty) = b) (hk : k = Lib.idxOfS nameList x) (h1 : k = 1) :
    Calls Tryz.prog 37 #[.slice a l.length cap] w fun e w' => ActR w { kind := 1, c := (rNum (l.tail, b)).1 } (rNum (l.tail, b)).2 e w' := by
  have hi := next_calls _ _ _ _ (rdr_init hr)
  rw [hx, hb] at hi
  have HI := Lib.hid hi
  clear hi
  have HINIT := Lib.hid (fun wi b h1 h2 cs => RSt.init (wi := wi) (b := b) (a := a) (cap := cap) hG hs h1 h2 cs)
  clear hr hs hG hx hb
  subst h1
  have HK := Lib.hid hk
  clear hk
  go_enter Tryz.func37, Tryz.ntmps37
  go_wp2_with (first | (go_at_call 36; go_must (with_reducible refine (names_calls _).mono ?_); rintro e wn ⟨rfl, rfl⟩) | (go_at_call 59; go_must (with_reducible refine HI.out.mono ?_); rintro e wa ⟨rfl, hst, ho⟩; have HS := Lib.hid (HINIT.out wa _ hst ho); have hnb : wa.heap[w.heap.size + 1 + 1]? = some (.cells (nameList.map Value.string).toArray 9 (0, 0)) := (by have h9 := (ho.block _ (by first | (simp; done) | (simp; omega)) (by first | (simp; done) | (simp; omega))).trans (heap_alloc_new ((w.alloc (Obj.cells cs0 56)).alloc (Obj.cells #[Value.slice a l.length cap, Value.bool false] 123)) (Obj.cells (nameList.map Value.string).toArray 9)); simpa using h9); have HNB := Lib.hid hnb; clear hnb hst ho) | (go_at_call 58; go_must (with_reducible refine (index_calls _ _ HK.out _ _ HNB.out).mono ?_); rintro e wi ⟨rfl, rfl⟩) | (go_at_call 60; go_must (with_reducible refine (st_num (by first | with_reducible exact HST.out | with_reducible exact HS.out _)).mono ?_); rintro e wk ⟨rfl, hst⟩; have HST := Lib.hid hst; obtain ⟨c0, c1, c2, c3, c4, c5, c6, c7, c8, c9, c10, c11, c12, cf⟩ := act_cells hst.blk; obtain ⟨ra, rcap, bb, nn, hbb, hnn, r0, r1, rf⟩ := hst.reader; have HBB := Lib.hid hbb; have HNN := Lib.hid hnn; clear hst hbb hnn))
  have hst := (HST.out.setA 1 (Value.int IntKind.i64 (rNum (l.tail, b)).1)); simp only [List.setIfInBounds_toArray, List.set_cons_succ, List.set_cons_zero] at hst; have HST := Lib.hid hst; clear c0 c1 c2 c3 c4 c5 c6 c7 c8 c9 c10 c11 c12 cf r0 r1 rf; obtain ⟨c0, c1, c2, c3, c4, c5, c6, c7, c8, c9, c10, c11, c12, cf⟩ := act_cells hst.blk; obtain ⟨ra, rcap, bb, nn, hbb, hnn, r0, r1, rf⟩ := hst.reader; have HBB := Lib.hid hbb; have HNN := Lib.hid hnn; clear hst hbb hnn
  obtain ⟨e0, e1, e2, e3, e4, e5, e6, e7, e8, e9, e10, e11, e12, ef⟩ := act_cells HST.out.res
  generalize (wk.setCell ⟨wi.heap.size, 1, none⟩ (Value.int IntKind.i64 (rNum (l.tail, b)).1)) = wf at *
  cases bb
  · go_region
    go_wp2
    refine bodyPost_ret (v := .tuple #[.agg #[.int .i64 1, .int .i64 (rNum (l.tail, b)).1, .int .i64 0, .int .i64 0, .int .i64 0, .int .i64 0, .int .i64 0, .int .u64 0, .int .u32 0, .bool false, .slice none 0 0, .int .i64 0, .slice none 0 0], .bool ((nn : Int) == 0)]) (by simp [results, Tryz.results37, go_sem, *]) rfl ?_
    refine ⟨.agg #[.int .i64 1, .int .i64 (rNum (l.tail, b)).1, .int .i64 0, .int .i64 0, .int .i64 0, .int .i64 0, .int .i64 0, .int .u64 0, .int .u32 0, .bool false, .slice none 0 0, .int .i64 0, .slice none 0 0], { kind := 1, c := (rNum (l.tail, b)).1 }, ?_, ⟨_, _, rfl, Own.nil_ _ _ _, Own.nil_ _ _ _⟩, fun _ => rfl, ?_⟩
    focus (refine congrArg Ending.returned ?_; first | (rw [ok_of HBB.out HNN.out]; simp; done) | (rw [ok_of HBB.out HNN.out]; simp [nat0]; done) | (simp; done))
    exact (((((((((((((HST.out.ext.set (Nat.le_refl _) _).set (Nat.le_refl _) _).set (Nat.le_refl _) _).set (Nat.le_refl _) _).set (Nat.le_refl _) _).set (Nat.le_refl _) _).set (Nat.le_refl _) _).set (Nat.le_refl _) _).set (Nat.le_refl _) _).set (Nat.le_refl _) _).set (Nat.le_refl _) _).set (Nat.le_refl _) _).set (Nat.le_refl _) _).drew
  · go_region
    go_wp2
    refine bodyPost_ret (v := .tuple #[.agg #[.int .i64 1, .int .i64 (rNum (l.tail, b)).1, .int .i64 0, .int .i64 0, .int .i64 0, .int .i64 0, .int .i64 0, .int .u64 0, .int .u32 0, .bool false, .slice none 0 0, .int .i64 0, .slice none 0 0], .bool false]) (by simp [results, Tryz.results37, go_sem, *]) rfl ?_
    refine ⟨.agg #[.int .i64 1, .int .i64 (rNum (l.tail, b)).1, .int .i64 0, .int .i64 0, .int .i64 0, .int .i64 0, .int .i64 0, .int .u64 0, .int .u32 0, .bool false, .slice none 0 0, .int .i64 0, .slice none 0 0], { kind := 1, c := (rNum (l.tail, b)).1 }, ?_, ⟨_, _, rfl, Own.nil_ _ _ _, Own.nil_ _ _ _⟩, fun _ => rfl, ?_⟩
    focus (refine congrArg Ending.returned ?_; first | (rw [ok_of HBB.out HNN.out]; simp; done) | (rw [ok_of HBB.out HNN.out]; simp [nat0]; done) | (simp; done))
    exact (((((((((((((HST.out.ext.set (Nat.le_refl _) _).set (Nat.le_refl _) _).set (Nat.le_refl _) _).set (Nat.le_refl _) _).set (Nat.le_refl _) _).set (Nat.le_refl _) _).set (Nat.le_refl _) _).set (Nat.le_refl _) _).set (Nat.le_refl _) _).set (Nat.le_refl _) _).set (Nat.le_refl _) _).set (Nat.le_refl _) _).set (Nat.le_refl _) _).drew

set_option maxHeartbeats 2000000 in
theorem act_2 {B : Nat} (a : Option Addr) (l : List ByteArray) (cap : Nat) (w : World) (hr : Row Kd.str w (fun _ => True) a cap l) (hs : Small l) (hG : Glob B w) (k : Int) (x : ByteArray) (b : Bool) (hx : l.headD (bs []) = x) (hb : (false || l.isEmpty) = b) (hk : k = Lib.idxOfS nameList x) (h1 : k = 2) :
    Calls Tryz.prog 37 #[.slice a l.length cap] w fun e w' => ActR w { kind := 2, i := (rNum (l.tail, b)).1 } (rNum (l.tail, b)).2 e w' := by
  have hi := next_calls _ _ _ _ (rdr_init hr)
  rw [hx, hb] at hi
  have HI := Lib.hid hi
  clear hi
  have HINIT := Lib.hid (fun wi b h1 h2 cs => RSt.init (wi := wi) (b := b) (a := a) (cap := cap) hG hs h1 h2 cs)
  clear hr hs hG hx hb
  subst h1
  have HK := Lib.hid hk
  clear hk
  go_enter Tryz.func37, Tryz.ntmps37
  go_wp2_with (first | (go_at_call 36; go_must (with_reducible refine (names_calls _).mono ?_); rintro e wn ⟨rfl, rfl⟩) | (go_at_call 59; go_must (with_reducible refine HI.out.mono ?_); rintro e wa ⟨rfl, hst, ho⟩; have HS := Lib.hid (HINIT.out wa _ hst ho); have hnb : wa.heap[w.heap.size + 1 + 1]? = some (.cells (nameList.map Value.string).toArray 9 (0, 0)) := (by have h9 := (ho.block _ (by first | (simp; done) | (simp; omega)) (by first | (simp; done) | (simp; omega))).trans (heap_alloc_new ((w.alloc (Obj.cells cs0 56)).alloc (Obj.cells #[Value.slice a l.length cap, Value.bool false] 123)) (Obj.cells (nameList.map Value.string).toArray 9)); simpa using h9); have HNB := Lib.hid hnb; clear hnb hst ho) | (go_at_call 58; go_must (with_reducible refine (index_calls _ _ HK.out _ _ HNB.out).mono ?_); rintro e wi ⟨rfl, rfl⟩) | (go_at_call 60; go_must (with_reducible refine (st_num (by first | with_reducible exact HST.out | with_reducible exact HS.out _)).mono ?_); rintro e wk ⟨rfl, hst⟩; have HST := Lib.hid hst; obtain ⟨c0, c1, c2, c3, c4, c5, c6, c7, c8, c9, c10, c11, c12, cf⟩ := act_cells hst.blk; obtain ⟨ra, rcap, bb, nn, hbb, hnn, r0, r1, rf⟩ := hst.reader; have HBB := Lib.hid hbb; have HNN := Lib.hid hnn; clear hst hbb hnn))
  have hst := (HST.out.setA 4 (Value.int IntKind.i64 (rNum (l.tail, b)).1)); simp only [List.setIfInBounds_toArray, List.set_cons_succ, List.set_cons_zero] at hst; have HST := Lib.hid hst; clear c0 c1 c2 c3 c4 c5 c6 c7 c8 c9 c10 c11 c12 cf r0 r1 rf; obtain ⟨c0, c1, c2, c3, c4, c5, c6, c7, c8, c9, c10, c11, c12, cf⟩ := act_cells hst.blk; obtain ⟨ra, rcap, bb, nn, hbb, hnn, r0, r1, rf⟩ := hst.reader; have HBB := Lib.hid hbb; have HNN := Lib.hid hnn; clear hst hbb hnn
  obtain ⟨e0, e1, e2, e3, e4, e5, e6, e7, e8, e9, e10, e11, e12, ef⟩ := act_cells HST.out.res
  generalize (wk.setCell ⟨wi.heap.size, 4, none⟩ (Value.int IntKind.i64 (rNum (l.tail, b)).1)) = wf at *
  cases bb
  · go_region
    go_wp2
    refine bodyPost_ret (v := .tuple #[.agg #[.int .i64 2, .int .i64 0, .int .i64 0, .int .i64 0, .int .i64 (rNum (l.tail, b)).1, .int .i64 0, .int .i64 0, .int .u64 0, .int .u32 0, .bool false, .slice none 0 0, .int .i64 0, .slice none 0 0], .bool ((nn : Int) == 0)]) (by simp [results, Tryz.results37, go_sem, *]) rfl ?_
    refine ⟨.agg #[.int .i64 2, .int .i64 0, .int .i64 0, .int .i64 0, .int .i64 (rNum (l.tail, b)).1, .int .i64 0, .int .i64 0, .int .u64 0, .int .u32 0, .bool false, .slice none 0 0, .int .i64 0, .slice none 0 0], { kind := 2, i := (rNum (l.tail, b)).1 }, ?_, ⟨_, _, rfl, Own.nil_ _ _ _, Own.nil_ _ _ _⟩, fun _ => rfl, ?_⟩
    focus (refine congrArg Ending.returned ?_; first | (rw [ok_of HBB.out HNN.out]; simp; done) | (rw [ok_of HBB.out HNN.out]; simp [nat0]; done) | (simp; done))
    exact (((((((((((((HST.out.ext.set (Nat.le_refl _) _).set (Nat.le_refl _) _).set (Nat.le_refl _) _).set (Nat.le_refl _) _).set (Nat.le_refl _) _).set (Nat.le_refl _) _).set (Nat.le_refl _) _).set (Nat.le_refl _) _).set (Nat.le_refl _) _).set (Nat.le_refl _) _).set (Nat.le_refl _) _).set (Nat.le_refl _) _).set (Nat.le_refl _) _).drew
  · go_region
    go_wp2
    refine bodyPost_ret (v := .tuple #[.agg #[.int .i64 2, .int .i64 0, .int .i64 0, .int .i64 0, .int .i64 (rNum (l.tail, b)).1, .int .i64 0, .int .i64 0, .int .u64 0, .int .u32 0, .bool false, .slice none 0 0, .int .i64 0, .slice none 0 0], .bool false]) (by simp [results, Tryz.results37, go_sem, *]) rfl ?_
    refine ⟨.agg #[.int .i64 2, .int .i64 0, .int .i64 0, .int .i64 0, .int .i64 (rNum (l.tail, b)).1, .int .i64 0, .int .i64 0, .int .u64 0, .int .u32 0, .bool false, .slice none 0 0, .int .i64 0, .slice none 0 0], { kind := 2, i := (rNum (l.tail, b)).1 }, ?_, ⟨_, _, rfl, Own.nil_ _ _ _, Own.nil_ _ _ _⟩, fun _ => rfl, ?_⟩
    focus (refine congrArg Ending.returned ?_; first | (rw [ok_of HBB.out HNN.out]; simp; done) | (rw [ok_of HBB.out HNN.out]; simp [nat0]; done) | (simp; done))
    exact (((((((((((((HST.out.ext.set (Nat.le_refl _) _).set (Nat.le_refl _) _).set (Nat.le_refl _) _).set (Nat.le_refl _) _).set (Nat.le_refl _) _).set (Nat.le_refl _) _).set (Nat.le_refl _) _).set (Nat.le_refl _) _).set (Nat.le_refl _) _).set (Nat.le_refl _) _).set (Nat.le_refl _) _).set (Nat.le_refl _) _).set (Nat.le_refl _) _).drew

set_option maxHeartbeats 2000000 in
theorem act_3 {B : Nat} (a : Option Addr) (l : List ByteArray) (cap : Nat) (w : World) (hr : Row Kd.str w (fun _ => True) a cap l) (hs : Small l) (hG : Glob B w) (k : Int) (x : ByteArray) (b : Bool) (hx : l.headD (bs []) = x) (hb : (false || l.isEmpty) = b) (hk : k = Lib.idxOfS nameList x) (h1 : k = 3) :
    Calls Tryz.prog 37 #[.slice a l.length cap] w fun e w' => ActR w { kind := 3, i := (rNum (l.tail, b)).1 } (rNum (l.tail, b)).2 e w' := by
  have hi := next_calls _ _ _ _ (rdr_init hr)
  rw [hx, hb] at hi
  have HI := Lib.hid hi
  clear hi
  have HINIT := Lib.hid (fun wi b h1 h2 cs => RSt.init (wi := wi) (b := b) (a := a) (cap := cap) hG hs h1 h2 cs)
  clear hr hs hG hx hb
  subst h1
  have HK := Lib.hid hk
  clear hk
  go_enter Tryz.func37, Tryz.ntmps37
  go_wp2_with (first | (go_at_call 36; go_must (with_reducible refine (names_calls _).mono ?_); rintro e wn ⟨rfl, rfl⟩) | (go_at_call 59; go_must (with_reducible refine HI.out.mono ?_); rintro e wa ⟨rfl, hst, ho⟩; have HS := Lib.hid (HINIT.out wa _ hst ho); have hnb : wa.heap[w.heap.size + 1 + 1]? = some (.cells (nameList.map Value.string).toArray 9 (0, 0)) := (by have h9 := (ho.block _ (by first | (simp; done) | (simp; omega)) (by first | (simp; done) | (simp; omega))).trans (heap_alloc_new ((w.alloc (Obj.cells cs0 56)).alloc (Obj.cells #[Value.slice a l.length cap, Value.bool false] 123)) (Obj.cells (nameList.map Value.string).toArray 9)); simpa using h9); have HNB := Lib.hid hnb; clear hnb hst ho) | (go_at_call 58; go_must (with_reducible refine (index_calls _ _ HK.out _ _ HNB.out).mono ?_); rintro e wi ⟨rfl, rfl⟩) | (go_at_call 60; go_must (with_reducible refine (st_num (by first | with_reducible exact HST.out | with_reducible exact HS.out _)).mono ?_); rintro e wk ⟨rfl, hst⟩; have HST := Lib.hid hst; obtain ⟨c0, c1, c2, c3, c4, c5, c6, c7, c8, c9, c10, c11, c12, cf⟩ := act_cells hst.blk; obtain ⟨ra, rcap, bb, nn, hbb, hnn, r0, r1, rf⟩ := hst.reader; have HBB := Lib.hid hbb; have HNN := Lib.hid hnn; clear hst hbb hnn))
  have hst := (HST.out.setA 4 (Value.int IntKind.i64 (rNum (l.tail, b)).1)); simp only [List.setIfInBounds_toArray, List.set_cons_succ, List.set_cons_zero] at hst; have HST := Lib.hid hst; clear c0 c1 c2 c3 c4 c5 c6 c7 c8 c9 c10 c11 c12 cf r0 r1 rf; obtain ⟨c0, c1, c2, c3, c4, c5, c6, c7, c8, c9, c10, c11, c12, cf⟩ := act_cells hst.blk; obtain ⟨ra, rcap, bb, nn, hbb, hnn, r0, r1, rf⟩ := hst.reader; have HBB := Lib.hid hbb; have HNN := Lib.hid hnn; clear hst hbb hnn
  obtain ⟨e0, e1, e2, e3, e4, e5, e6, e7, e8, e9, e10, e11, e12, ef⟩ := act_cells HST.out.res
  generalize (wk.setCell ⟨wi.heap.size, 4, none⟩ (Value.int IntKind.i64 (rNum (l.tail, b)).1)) = wf at *
  cases bb
  · go_region
    go_wp2
    refine bodyPost_ret (v := .tuple #[.agg #[.int .i64 3, .int .i64 0, .int .i64 0, .int .i64 0, .int .i64 (rNum (l.tail, b)).1, .int .i64 0, .int .i64 0, .int .u64 0, .int .u32 0, .bool false, .slice none 0 0, .int .i64 0, .slice none 0 0], .bool ((nn : Int) == 0)]) (by simp [results, Tryz.results37, go_sem, *]) rfl ?_
    refine ⟨.agg #[.int .i64 3, .int .i64 0, .int .i64 0, .int .i64 0, .int .i64 (rNum (l.tail, b)).1, .int .i64 0, .int .i64 0, .int .u64 0, .int .u32 0, .bool false, .slice none 0 0, .int .i64 0, .slice none 0 0], { kind := 3, i := (rNum (l.tail, b)).1 }, ?_, ⟨_, _, rfl, Own.nil_ _ _ _, Own.nil_ _ _ _⟩, fun _ => rfl, ?_⟩
    focus (refine congrArg Ending.returned ?_; first | (rw [ok_of HBB.out HNN.out]; simp; done) | (rw [ok_of HBB.out HNN.out]; simp [nat0]; done) | (simp; done))
    exact (((((((((((((HST.out.ext.set (Nat.le_refl _) _).set (Nat.le_refl _) _).set (Nat.le_refl _) _).set (Nat.le_refl _) _).set (Nat.le_refl _) _).set (Nat.le_refl _) _).set (Nat.le_refl _) _).set (Nat.le_refl _) _).set (Nat.le_refl _) _).set (Nat.le_refl _) _).set (Nat.le_refl _) _).set (Nat.le_refl _) _).set (Nat.le_refl _) _).drew
  · go_region
    go_wp2
    refine bodyPost_ret (v := .tuple #[.agg #[.int .i64 3, .int .i64 0, .int .i64 0, .int .i64 0, .int .i64 (rNum (l.tail, b)).1, .int .i64 0, .int .i64 0, .int .u64 0, .int .u32 0, .bool false, .slice none 0 0, .int .i64 0, .slice none 0 0], .bool false]) (by simp [results, Tryz.results37, go_sem, *]) rfl ?_
    refine ⟨.agg #[.int .i64 3, .int .i64 0, .int .i64 0, .int .i64 0, .int .i64 (rNum (l.tail, b)).1, .int .i64 0, .int .i64 0, .int .u64 0, .int .u32 0, .bool false, .slice none 0 0, .int .i64 0, .slice none 0 0], { kind := 3, i := (rNum (l.tail, b)).1 }, ?_, ⟨_, _, rfl, Own.nil_ _ _ _, Own.nil_ _ _ _⟩, fun _ => rfl, ?_⟩
    focus (refine congrArg Ending.returned ?_; first | (rw [ok_of HBB.out HNN.out]; simp; done) | (rw [ok_of HBB.out HNN.out]; simp [nat0]; done) | (simp; done))
    exact (((((((((((((HST.out.ext.set (Nat.le_refl _) _).set (Nat.le_refl _) _).set (Nat.le_refl _) _).set (Nat.le_refl _) _).set (Nat.le_refl _) _).set (Nat.le_refl _) _).set (Nat.le_refl _) _).set (Nat.le_refl _) _).set (Nat.le_refl _) _).set (Nat.le_refl _) _).set (Nat.le_refl _) _).set (Nat.le_refl _) _).set (Nat.le_refl _) _).drew

set_option maxHeartbeats 2000000 in
theorem act_4 {B : Nat} (a : Option Addr) (l : List ByteArray) (cap : Nat) (w : World) (hr : Row Kd.str w (fun _ => True) a cap l) (hs : Small l) (hG : Glob B w) (k : Int) (x : ByteArray) (b : Bool) (hx : l.headD (bs []) = x) (hb : (false || l.isEmpty) = b) (hk : k = Lib.idxOfS nameList x) (h1 : k = 4) :
    Calls Tryz.prog 37 #[.slice a l.length cap] w fun e w' => ActR w { kind := 4, i := (rNum (l.tail, b)).1 } (rNum (l.tail, b)).2 e w' := by
  have hi := next_calls _ _ _ _ (rdr_init hr)
  rw [hx, hb] at hi
  have HI := Lib.hid hi
  clear hi
  have HINIT := Lib.hid (fun wi b h1 h2 cs => RSt.init (wi := wi) (b := b) (a := a) (cap := cap) hG hs h1 h2 cs)
  clear hr hs hG hx hb
  subst h1
  have HK := Lib.hid hk
  clear hk
  go_enter Tryz.func37, Tryz.ntmps37
  go_wp2_with (first | (go_at_call 36; go_must (with_reducible refine (names_calls _).mono ?_); rintro e wn ⟨rfl, rfl⟩) | (go_at_call 59; go_must (with_reducible refine HI.out.mono ?_); rintro e wa ⟨rfl, hst, ho⟩; have HS := Lib.hid (HINIT.out wa _ hst ho); have hnb : wa.heap[w.heap.size + 1 + 1]? = some (.cells (nameList.map Value.string).toArray 9 (0, 0)) := (by have h9 := (ho.block _ (by first | (simp; done) | (simp; omega)) (by first | (simp; done) | (simp; omega))).trans (heap_alloc_new ((w.alloc (Obj.cells cs0 56)).alloc (Obj.cells #[Value.slice a l.length cap, Value.bool false] 123)) (Obj.cells (nameList.map Value.string).toArray 9)); simpa using h9); have HNB := Lib.hid hnb; clear hnb hst ho) | (go_at_call 58; go_must (with_reducible refine (index_calls _ _ HK.out _ _ HNB.out).mono ?_); rintro e wi ⟨rfl, rfl⟩) | (go_at_call 60; go_must (with_reducible refine (st_num (by first | with_reducible exact HST.out | with_reducible exact HS.out _)).mono ?_); rintro e wk ⟨rfl, hst⟩; have HST := Lib.hid hst; obtain ⟨c0, c1, c2, c3, c4, c5, c6, c7, c8, c9, c10, c11, c12, cf⟩ := act_cells hst.blk; obtain ⟨ra, rcap, bb, nn, hbb, hnn, r0, r1, rf⟩ := hst.reader; have HBB := Lib.hid hbb; have HNN := Lib.hid hnn; clear hst hbb hnn))
  have hst := (HST.out.setA 4 (Value.int IntKind.i64 (rNum (l.tail, b)).1)); simp only [List.setIfInBounds_toArray, List.set_cons_succ, List.set_cons_zero] at hst; have HST := Lib.hid hst; clear c0 c1 c2 c3 c4 c5 c6 c7 c8 c9 c10 c11 c12 cf r0 r1 rf; obtain ⟨c0, c1, c2, c3, c4, c5, c6, c7, c8, c9, c10, c11, c12, cf⟩ := act_cells hst.blk; obtain ⟨ra, rcap, bb, nn, hbb, hnn, r0, r1, rf⟩ := hst.reader; have HBB := Lib.hid hbb; have HNN := Lib.hid hnn; clear hst hbb hnn
  obtain ⟨e0, e1, e2, e3, e4, e5, e6, e7, e8, e9, e10, e11, e12, ef⟩ := act_cells HST.out.res
  generalize (wk.setCell ⟨wi.heap.size, 4, none⟩ (Value.int IntKind.i64 (rNum (l.tail, b)).1)) = wf at *
  cases bb
  · go_region
    go_wp2
    refine bodyPost_ret (v := .tuple #[.agg #[.int .i64 4, .int .i64 0, .int .i64 0, .int .i64 0, .int .i64 (rNum (l.tail, b)).1, .int .i64 0, .int .i64 0, .int .u64 0, .int .u32 0, .bool false, .slice none 0 0, .int .i64 0, .slice none 0 0], .bool ((nn : Int) == 0)]) (by simp [results, Tryz.results37, go_sem, *]) rfl ?_
    refine ⟨.agg #[.int .i64 4, .int .i64 0, .int .i64 0, .int .i64 0, .int .i64 (rNum (l.tail, b)).1, .int .i64 0, .int .i64 0, .int .u64 0, .int .u32 0, .bool false, .slice none 0 0, .int .i64 0, .slice none 0 0], { kind := 4, i := (rNum (l.tail, b)).1 }, ?_, ⟨_, _, rfl, Own.nil_ _ _ _, Own.nil_ _ _ _⟩, fun _ => rfl, ?_⟩
    focus (refine congrArg Ending.returned ?_; first | (rw [ok_of HBB.out HNN.out]; simp; done) | (rw [ok_of HBB.out HNN.out]; simp [nat0]; done) | (simp; done))
    exact (((((((((((((HST.out.ext.set (Nat.le_refl _) _).set (Nat.le_refl _) _).set (Nat.le_refl _) _).set (Nat.le_refl _) _).set (Nat.le_refl _) _).set (Nat.le_refl _) _).set (Nat.le_refl _) _).set (Nat.le_refl _) _).set (Nat.le_refl _) _).set (Nat.le_refl _) _).set (Nat.le_refl _) _).set (Nat.le_refl _) _).set (Nat.le_refl _) _).drew
  · go_region
    go_wp2
    refine bodyPost_ret (v := .tuple #[.agg #[.int .i64 4, .int .i64 0, .int .i64 0, .int .i64 0, .int .i64 (rNum (l.tail, b)).1, .int .i64 0, .int .i64 0, .int .u64 0, .int .u32 0, .bool false, .slice none 0 0, .int .i64 0, .slice none 0 0], .bool false]) (by simp [results, Tryz.results37, go_sem, *]) rfl ?_
    refine ⟨.agg #[.int .i64 4, .int .i64 0, .int .i64 0, .int .i64 0, .int .i64 (rNum (l.tail, b)).1, .int .i64 0, .int .i64 0, .int .u64 0, .int .u32 0, .bool false, .slice none 0 0, .int .i64 0, .slice none 0 0], { kind := 4, i := (rNum (l.tail, b)).1 }, ?_, ⟨_, _, rfl, Own.nil_ _ _ _, Own.nil_ _ _ _⟩, fun _ => rfl, ?_⟩
    focus (refine congrArg Ending.returned ?_; first | (rw [ok_of HBB.out HNN.out]; simp; done) | (rw [ok_of HBB.out HNN.out]; simp [nat0]; done) | (simp; done))
    exact (((((((((((((HST.out.ext.set (Nat.le_refl _) _).set (Nat.le_refl _) _).set (Nat.le_refl _) _).set (Nat.le_refl _) _).set (Nat.le_refl _) _).set (Nat.le_refl _) _).set (Nat.le_refl _) _).set (Nat.le_refl _) _).set (Nat.le_refl _) _).set (Nat.le_refl _) _).set (Nat.le_refl _) _).set (Nat.le_refl _) _).set (Nat.le_refl _) _).drew

set_option maxHeartbeats 2000000 in
theorem act_10 {B : Nat} (a : Option Addr) (l : List ByteArray) (cap : Nat) (w : World) (hr : Row Kd.str w (fun _ => True) a cap l) (hs : Small l) (hG : Glob B w) (k : Int) (x : ByteArray) (b : Bool) (hx : l.headD (bs []) = x) (hb : (false || l.isEmpty) = b) (hk : k = Lib.idxOfS nameList x) (h1 : k = 10) :
    Calls Tryz.prog 37 #[.slice a l.length cap] w fun e w' => ActR w { kind := 10, a := (rNum (l.tail, b)).1 } (rNum (l.tail, b)).2 e w' := by
  have hi := next_calls _ _ _ _ (rdr_init hr)
  rw [hx, hb] at hi
  have HI := Lib.hid hi
  clear hi
  have HINIT := Lib.hid (fun wi b h1 h2 cs => RSt.init (wi := wi) (b := b) (a := a) (cap := cap) hG hs h1 h2 cs)
  clear hr hs hG hx hb
  subst h1
  have HK := Lib.hid hk
  clear hk
  go_enter Tryz.func37, Tryz.ntmps37
  go_wp2_with (first | (go_at_call 36; go_must (with_reducible refine (names_calls _).mono ?_); rintro e wn ⟨rfl, rfl⟩) | (go_at_call 59; go_must (with_reducible refine HI.out.mono ?_); rintro e wa ⟨rfl, hst, ho⟩; have HS := Lib.hid (HINIT.out wa _ hst ho); have hnb : wa.heap[w.heap.size + 1 + 1]? = some (.cells (nameList.map Value.string).toArray 9 (0, 0)) := (by have h9 := (ho.block _ (by first | (simp; done) | (simp; omega)) (by first | (simp; done) | (simp; omega))).trans (heap_alloc_new ((w.alloc (Obj.cells cs0 56)).alloc (Obj.cells #[Value.slice a l.length cap, Value.bool false] 123)) (Obj.cells (nameList.map Value.string).toArray 9)); simpa using h9); have HNB := Lib.hid hnb; clear hnb hst ho) | (go_at_call 58; go_must (with_reducible refine (index_calls _ _ HK.out _ _ HNB.out).mono ?_); rintro e wi ⟨rfl, rfl⟩) | (go_at_call 60; go_must (with_reducible refine (st_num (by first | with_reducible exact HST.out | with_reducible exact HS.out _)).mono ?_); rintro e wk ⟨rfl, hst⟩; have HST := Lib.hid hst; obtain ⟨c0, c1, c2, c3, c4, c5, c6, c7, c8, c9, c10, c11, c12, cf⟩ := act_cells hst.blk; obtain ⟨ra, rcap, bb, nn, hbb, hnn, r0, r1, rf⟩ := hst.reader; have HBB := Lib.hid hbb; have HNN := Lib.hid hnn; clear hst hbb hnn))
  have hst := (HST.out.setA 5 (Value.int IntKind.i64 (rNum (l.tail, b)).1)); simp only [List.setIfInBounds_toArray, List.set_cons_succ, List.set_cons_zero] at hst; have HST := Lib.hid hst; clear c0 c1 c2 c3 c4 c5 c6 c7 c8 c9 c10 c11 c12 cf r0 r1 rf; obtain ⟨c0, c1, c2, c3, c4, c5, c6, c7, c8, c9, c10, c11, c12, cf⟩ := act_cells hst.blk; obtain ⟨ra, rcap, bb, nn, hbb, hnn, r0, r1, rf⟩ := hst.reader; have HBB := Lib.hid hbb; have HNN := Lib.hid hnn; clear hst hbb hnn
  obtain ⟨e0, e1, e2, e3, e4, e5, e6, e7, e8, e9, e10, e11, e12, ef⟩ := act_cells HST.out.res
  generalize (wk.setCell ⟨wi.heap.size, 5, none⟩ (Value.int IntKind.i64 (rNum (l.tail, b)).1)) = wf at *
  cases bb
  · go_region
    go_wp2
    refine bodyPost_ret (v := .tuple #[.agg #[.int .i64 10, .int .i64 0, .int .i64 0, .int .i64 0, .int .i64 0, .int .i64 (rNum (l.tail, b)).1, .int .i64 0, .int .u64 0, .int .u32 0, .bool false, .slice none 0 0, .int .i64 0, .slice none 0 0], .bool ((nn : Int) == 0)]) (by simp [results, Tryz.results37, go_sem, *]) rfl ?_
    refine ⟨.agg #[.int .i64 10, .int .i64 0, .int .i64 0, .int .i64 0, .int .i64 0, .int .i64 (rNum (l.tail, b)).1, .int .i64 0, .int .u64 0, .int .u32 0, .bool false, .slice none 0 0, .int .i64 0, .slice none 0 0], { kind := 10, a := (rNum (l.tail, b)).1 }, ?_, ⟨_, _, rfl, Own.nil_ _ _ _, Own.nil_ _ _ _⟩, fun _ => rfl, ?_⟩
    focus (refine congrArg Ending.returned ?_; first | (rw [ok_of HBB.out HNN.out]; simp; done) | (rw [ok_of HBB.out HNN.out]; simp [nat0]; done) | (simp; done))
    exact (((((((((((((HST.out.ext.set (Nat.le_refl _) _).set (Nat.le_refl _) _).set (Nat.le_refl _) _).set (Nat.le_refl _) _).set (Nat.le_refl _) _).set (Nat.le_refl _) _).set (Nat.le_refl _) _).set (Nat.le_refl _) _).set (Nat.le_refl _) _).set (Nat.le_refl _) _).set (Nat.le_refl _) _).set (Nat.le_refl _) _).set (Nat.le_refl _) _).drew
  · go_region
    go_wp2
    refine bodyPost_ret (v := .tuple #[.agg #[.int .i64 10, .int .i64 0, .int .i64 0, .int .i64 0, .int .i64 0, .int .i64 (rNum (l.tail, b)).1, .int .i64 0, .int .u64 0, .int .u32 0, .bool false, .slice none 0 0, .int .i64 0, .slice none 0 0], .bool false]) (by simp [results, Tryz.results37, go_sem, *]) rfl ?_
    refine ⟨.agg #[.int .i64 10, .int .i64 0, .int .i64 0, .int .i64 0, .int .i64 0, .int .i64 (rNum (l.tail, b)).1, .int .i64 0, .int .u64 0, .int .u32 0, .bool false, .slice none 0 0, .int .i64 0, .slice none 0 0], { kind := 10, a := (rNum (l.tail, b)).1 }, ?_, ⟨_, _, rfl, Own.nil_ _ _ _, Own.nil_ _ _ _⟩, fun _ => rfl, ?_⟩
    focus (refine congrArg Ending.returned ?_; first | (rw [ok_of HBB.out HNN.out]; simp; done) | (rw [ok_of HBB.out HNN.out]; simp [nat0]; done) | (simp; done))
    exact (((((((((((((HST.out.ext.set (Nat.le_refl _) _).set (Nat.le_refl _) _).set (Nat.le_refl _) _).set (Nat.le_refl _) _).set (Nat.le_refl _) _).set (Nat.le_refl _) _).set (Nat.le_refl _) _).set (Nat.le_refl _) _).set (Nat.le_refl _) _).set (Nat.le_refl _) _).set (Nat.le_refl _) _).set (Nat.le_refl _) _).set (Nat.le_refl _) _).drew

set_option maxHeartbeats 2000000 in
theorem act_11 {B : Nat} (a : Option Addr) (l : List ByteArray) (cap : Nat) (w : World) (hr : Row Kd.str w (fun _ => True) a cap l) (hs : Small l) (hG : Glob B w) (k : Int) (x : ByteArray) (b : Bool) (hx : l.headD (bs []) = x) (hb : (false || l.isEmpty) = b) (hk : k = Lib.idxOfS nameList x) (h1 : k = 11) :
    Calls Tryz.prog 37 #[.slice a l.length cap] w fun e w' => ActR w { kind := 11, c := (rNum (l.tail, b)).1 } (rNum (l.tail, b)).2 e w' := by
  have hi := next_calls _ _ _ _ (rdr_init hr)
  rw [hx, hb] at hi
  have HI := Lib.hid hi
  clear hi
  have HINIT := Lib.hid (fun wi b h1 h2 cs => RSt.init (wi := wi) (b := b) (a := a) (cap := cap) hG hs h1 h2 cs)
  clear hr hs hG hx hb
  subst h1
  have HK := Lib.hid hk
  clear hk
  go_enter Tryz.func37, Tryz.ntmps37
  go_wp2_with (first | (go_at_call 36; go_must (with_reducible refine (names_calls _).mono ?_); rintro e wn ⟨rfl, rfl⟩) | (go_at_call 59; go_must (with_reducible refine HI.out.mono ?_); rintro e wa ⟨rfl, hst, ho⟩; have HS := Lib.hid (HINIT.out wa _ hst ho); have hnb : wa.heap[w.heap.size + 1 + 1]? = some (.cells (nameList.map Value.string).toArray 9 (0, 0)) := (by have h9 := (ho.block _ (by first | (simp; done) | (simp; omega)) (by first | (simp; done) | (simp; omega))).trans (heap_alloc_new ((w.alloc (Obj.cells cs0 56)).alloc (Obj.cells #[Value.slice a l.length cap, Value.bool false] 123)) (Obj.cells (nameList.map Value.string).toArray 9)); simpa using h9); have HNB := Lib.hid hnb; clear hnb hst ho) | (go_at_call 58; go_must (with_reducible refine (index_calls _ _ HK.out _ _ HNB.out).mono ?_); rintro e wi ⟨rfl, rfl⟩) | (go_at_call 60; go_must (with_reducible refine (st_num (by first | with_reducible exact HST.out | with_reducible exact HS.out _)).mono ?_); rintro e wk ⟨rfl, hst⟩; have HST := Lib.hid hst; obtain ⟨c0, c1, c2, c3, c4, c5, c6, c7, c8, c9, c10, c11, c12, cf⟩ := act_cells hst.blk; obtain ⟨ra, rcap, bb, nn, hbb, hnn, r0, r1, rf⟩ := hst.reader; have HBB := Lib.hid hbb; have HNN := Lib.hid hnn; clear hst hbb hnn))
  have hst := (HST.out.setA 1 (Value.int IntKind.i64 (rNum (l.tail, b)).1)); simp only [List.setIfInBounds_toArray, List.set_cons_succ, List.set_cons_zero] at hst; have HST := Lib.hid hst; clear c0 c1 c2 c3 c4 c5 c6 c7 c8 c9 c10 c11 c12 cf r0 r1 rf; obtain ⟨c0, c1, c2, c3, c4, c5, c6, c7, c8, c9, c10, c11, c12, cf⟩ := act_cells hst.blk; obtain ⟨ra, rcap, bb, nn, hbb, hnn, r0, r1, rf⟩ := hst.reader; have HBB := Lib.hid hbb; have HNN := Lib.hid hnn; clear hst hbb hnn
  obtain ⟨e0, e1, e2, e3, e4, e5, e6, e7, e8, e9, e10, e11, e12, ef⟩ := act_cells HST.out.res
  generalize (wk.setCell ⟨wi.heap.size, 1, none⟩ (Value.int IntKind.i64 (rNum (l.tail, b)).1)) = wf at *
  cases bb
  · go_region
    go_wp2
    refine bodyPost_ret (v := .tuple #[.agg #[.int .i64 11, .int .i64 (rNum (l.tail, b)).1, .int .i64 0, .int .i64 0, .int .i64 0, .int .i64 0, .int .i64 0, .int .u64 0, .int .u32 0, .bool false, .slice none 0 0, .int .i64 0, .slice none 0 0], .bool ((nn : Int) == 0)]) (by simp [results, Tryz.results37, go_sem, *]) rfl ?_
    refine ⟨.agg #[.int .i64 11, .int .i64 (rNum (l.tail, b)).1, .int .i64 0, .int .i64 0, .int .i64 0, .int .i64 0, .int .i64 0, .int .u64 0, .int .u32 0, .bool false, .slice none 0 0, .int .i64 0, .slice none 0 0], { kind := 11, c := (rNum (l.tail, b)).1 }, ?_, ⟨_, _, rfl, Own.nil_ _ _ _, Own.nil_ _ _ _⟩, fun _ => rfl, ?_⟩
    focus (refine congrArg Ending.returned ?_; first | (rw [ok_of HBB.out HNN.out]; simp; done) | (rw [ok_of HBB.out HNN.out]; simp [nat0]; done) | (simp; done))
    exact (((((((((((((HST.out.ext.set (Nat.le_refl _) _).set (Nat.le_refl _) _).set (Nat.le_refl _) _).set (Nat.le_refl _) _).set (Nat.le_refl _) _).set (Nat.le_refl _) _).set (Nat.le_refl _) _).set (Nat.le_refl _) _).set (Nat.le_refl _) _).set (Nat.le_refl _) _).set (Nat.le_refl _) _).set (Nat.le_refl _) _).set (Nat.le_refl _) _).drew
  · go_region
    go_wp2
    refine bodyPost_ret (v := .tuple #[.agg #[.int .i64 11, .int .i64 (rNum (l.tail, b)).1, .int .i64 0, .int .i64 0, .int .i64 0, .int .i64 0, .int .i64 0, .int .u64 0, .int .u32 0, .bool false, .slice none 0 0, .int .i64 0, .slice none 0 0], .bool false]) (by simp [results, Tryz.results37, go_sem, *]) rfl ?_
    refine ⟨.agg #[.int .i64 11, .int .i64 (rNum (l.tail, b)).1, .int .i64 0, .int .i64 0, .int .i64 0, .int .i64 0, .int .i64 0, .int .u64 0, .int .u32 0, .bool false, .slice none 0 0, .int .i64 0, .slice none 0 0], { kind := 11, c := (rNum (l.tail, b)).1 }, ?_, ⟨_, _, rfl, Own.nil_ _ _ _, Own.nil_ _ _ _⟩, fun _ => rfl, ?_⟩
    focus (refine congrArg Ending.returned ?_; first | (rw [ok_of HBB.out HNN.out]; simp; done) | (rw [ok_of HBB.out HNN.out]; simp [nat0]; done) | (simp; done))
    exact (((((((((((((HST.out.ext.set (Nat.le_refl _) _).set (Nat.le_refl _) _).set (Nat.le_refl _) _).set (Nat.le_refl _) _).set (Nat.le_refl _) _).set (Nat.le_refl _) _).set (Nat.le_refl _) _).set (Nat.le_refl _) _).set (Nat.le_refl _) _).set (Nat.le_refl _) _).set (Nat.le_refl _) _).set (Nat.le_refl _) _).set (Nat.le_refl _) _).drew
end Go.Proofs.YtjipffbnndbchaaGreatDoor
