/- The walks of script: the act of words. Printed by gen_act.py. -/
import Derived.Test.YtjipffbnndbchaaGreatDoorScrD
namespace Go.Proofs.YtjipffbnndbchaaGreatDoor
open Go.RowKit
set_option maxRecDepth 100000

set_option maxHeartbeats 2000000 in
theorem act_no {B : Nat} (a : Option Addr) (l : List ByteArray) (cap : Nat) (w : World) (hr : Row Kd.str w (fun _ => True) a cap l) (hs : Small l) (hG : Glob B w) (k : Int) (x : ByteArray) (b : Bool) (hx : l.headD (bs []) = x) (hb : (false || l.isEmpty) = b) (hk : k = Lib.idxOfS nameList x) (h0 : (k == 0) = false) (h1 : (k == 1) = false) (h2 : (k == 2) = false) (h3 : (k == 3) = false) (h4 : (k == 4) = false) (h5 : (k == 5) = false) (h6 : (k == 6) = false) (h7 : (k == 7) = false) (h8 : (k == 8) = false) (h9 : (k == 9) = false) (h10 : (k == 10) = false) (h11 : (k == 11) = false) :
    Calls Tryz.prog 37 #[.slice a l.length cap] w fun e w' => ActR w { kind := k } (l.tail, true) e w' := by
  have hi := next_calls _ _ _ _ (rdr_init hr)
  rw [hx, hb] at hi
  have HI := Lib.hid hi
  clear hi
  have HINIT := Lib.hid (fun wi b h1 h2 cs => RSt.init (wi := wi) (b := b) (a := a) (cap := cap) hG hs h1 h2 cs)
  clear hr hs hG hx hb
  have HK := Lib.hid hk
  clear hk
  go_enter Tryz.func37, Tryz.ntmps37
  go_wp2_with (first | (go_at_call 36; go_must (with_reducible refine (names_calls _).mono ?_); rintro e wn ⟨rfl, rfl⟩) | (go_at_call 59; go_must (with_reducible refine HI.out.mono ?_); rintro e wa ⟨rfl, hst, ho⟩; have HS := Lib.hid (HINIT.out wa _ hst ho); have hnb : wa.heap[w.heap.size + 1 + 1]? = some (.cells (nameList.map Value.string).toArray 9 (0, 0)) := (by have h9 := (ho.block _ (by first | (simp; done) | (simp; omega)) (by first | (simp; done) | (simp; omega))).trans (heap_alloc_new ((w.alloc (Obj.cells cs0 56)).alloc (Obj.cells #[Value.slice a l.length cap, Value.bool false] 123)) (Obj.cells (nameList.map Value.string).toArray 9)); simpa using h9); have HNB := Lib.hid hnb; clear hnb hst ho) | (go_at_call 58; go_must (with_reducible refine (index_calls _ _ HK.out _ _ HNB.out).mono ?_); rintro e wi ⟨rfl, rfl⟩; have hst := HS.out #[.int .i64 k, .int .i64 0, .int .i64 0, .int .i64 0, .int .i64 0, .int .i64 0, .int .i64 0, .int .u64 0, .int .u32 0, .bool false, .slice none 0 0, .int .i64 0, .slice none 0 0]; have HST := Lib.hid hst; obtain ⟨c0, c1, c2, c3, c4, c5, c6, c7, c8, c9, c10, c11, c12, cf⟩ := act_cells hst.blk; obtain ⟨ra, rcap, bb, nn, hbb, hnn, r0, r1, rf⟩ := hst.reader; have HBB := Lib.hid hbb; have HNN := Lib.hid hnn; clear hst hbb hnn))
  have hst := HST.out.setBad true; dsimp only at hst; have HST := Lib.hid hst; clear c0 c1 c2 c3 c4 c5 c6 c7 c8 c9 c10 c11 c12 cf r0 r1 rf; obtain ⟨c0, c1, c2, c3, c4, c5, c6, c7, c8, c9, c10, c11, c12, cf⟩ := act_cells hst.blk; obtain ⟨ra, rcap, bb, nn, hbb, hnn, r0, r1, rf⟩ := hst.reader; have HBB := Lib.hid hbb; have HNN := Lib.hid hnn; clear hst hbb hnn
  obtain ⟨e0, e1, e2, e3, e4, e5, e6, e7, e8, e9, e10, e11, e12, ef⟩ := act_cells HST.out.res
  generalize World.setCell _ ⟨w.heap.size + 1, 1, none⟩ (.bool true) = wf at *
  obtain rfl : bb = true := HBB.out
  go_region
  go_wp2
  refine bodyPost_ret (v := .tuple #[.agg #[.int .i64 k, .int .i64 0, .int .i64 0, .int .i64 0, .int .i64 0, .int .i64 0, .int .i64 0, .int .u64 0, .int .u32 0, .bool false, .slice none 0 0, .int .i64 0, .slice none 0 0], .bool false]) (by simp [results, Tryz.results37, go_sem, *]) rfl ?_
  refine ⟨.agg #[.int .i64 k, .int .i64 0, .int .i64 0, .int .i64 0, .int .i64 0, .int .i64 0, .int .i64 0, .int .u64 0, .int .u32 0, .bool false, .slice none 0 0, .int .i64 0, .slice none 0 0], { kind := k }, ?_, ⟨_, _, rfl, Own.nil_ _ _ _, Own.nil_ _ _ _⟩, fun _ => rfl, ?_⟩
  focus (refine congrArg Ending.returned ?_; first | (rw [ok_of HBB.out HNN.out]; simp; done) | (rw [ok_of HBB.out HNN.out]; simp [nat0]; done) | (simp; done))
  exact (((((((((((((HST.out.ext.set (Nat.le_refl _) _).set (Nat.le_refl _) _).set (Nat.le_refl _) _).set (Nat.le_refl _) _).set (Nat.le_refl _) _).set (Nat.le_refl _) _).set (Nat.le_refl _) _).set (Nat.le_refl _) _).set (Nat.le_refl _) _).set (Nat.le_refl _) _).set (Nat.le_refl _) _).set (Nat.le_refl _) _).set (Nat.le_refl _) _).drew
end Go.Proofs.YtjipffbnndbchaaGreatDoor
