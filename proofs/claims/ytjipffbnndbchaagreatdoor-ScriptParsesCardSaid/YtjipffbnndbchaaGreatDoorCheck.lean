/- The walk of Check. -/
import Derived.Test.YtjipffbnndbchaaGreatDoorSame2
import Derived.Test.YtjipffbnndbchaaGreatDoorErr
import Derived.Deep.RegionLaw
namespace Go.Proofs.YtjipffbnndbchaaGreatDoor
open Go.RowKit
set_option maxRecDepth 100000

set_option maxHeartbeats 1000000 in
theorem check_ok {B : Nat} (v : Value) (x : Ac) (w : World) (hG : Glob B w) (hx : AcIn x) (hv : ActRow w (fun _ => True) v x) (hg : x.gone = false) (hop : x.kind = 0 → opName x.op ≠ bs []) (hsm : Small (wordsOf x)) (hlen : (wordsOf x).length ≤ 2000000) (hact : (actOf (wordsOf x)).1 = x) (hok : (actOf (wordsOf x)).2.2 = false ∧ (actOf (wordsOf x)).2.1 = []) :
    Calls Tryz.prog 16 #[v] w fun e w' => e = .returned .nilIface ∧ Ext w w' := by
  have hW := fun W (e : Ext w W) => words_calls v x W (hG.ext e) hx (hv.below e)
  have hA := fun W (e : Ext w W) a cap (hr : Row Kd.str W (fun _ => True) a cap (wordsOf x)) => act_calls a (wordsOf x) cap W hr hsm hlen (hG.ext e)
  have hS := fun W (e : Ext w W) v2 (h2 : ActRow W (fun _ => True) v2 x) => same_calls v v2 x x W (hv.below e) h2
  have hAV : ∀ W e0 W', ActR W (actOf (wordsOf x)).1 (actOf (wordsOf x)).2 e0 W' → ∃ da2 dcap2 fa2 fcap2, e0 = .returned (.tuple #[acVal x.kind x.c x.op x.v x.i x.a x.b x.key x.cookie x.gone (.slice da2 x.data.length dcap2) x.names (.slice fa2 x.files.length fcap2), .bool true]) ∧ ActRow W' (fun _ => True) (acVal x.kind x.c x.op x.v x.i x.a x.b x.key x.cookie x.gone (.slice da2 x.data.length dcap2) x.names (.slice fa2 x.files.length fcap2)) x ∧ Ext W W' := by
    rintro W e0 W' ⟨v2, y, rfl, h1, h2, h3⟩
    have hy := h2 hok.1
    rw [hact] at hy
    subst hy
    obtain ⟨da, dcap, fa, fcap, e1, r1, r2⟩ := h1.row
    subst e1
    refine ⟨da, dcap, fa, fcap, ?_, ⟨da, dcap, fa, fcap, rfl, r1.mono fun _ _ _ => trivial, r2.mono fun _ _ _ => trivial⟩, h3⟩
    rw [hok.1, hok.2]
    rfl
  have HW := Lib.hid hW
  have HA := Lib.hid hA
  have HS := Lib.hid hS
  have HAV := Lib.hid hAV
  clear hW hA hS hAV hact hok hsm hlen
  have k0 := hx.k0
  have k1 := hx.k1
  clear hx
  obtain ⟨da, dcap, fa, fcap, hve, hd, hf⟩ := hv
  clear hd hf
  generalize hws : wordsOf x = ws at *
  clear hws
  obtain ⟨k, c, o, vv, i, a, b, key, ck, g, data, nm, files⟩ := x
  simp only at hve hg k0 k1 hop HAV
  subst hg
  have k2 : k < 12 := by omega
  have hd1 : decide (k < 0) = false := by simpa using k0
  have hd2 : decide (12 ≤ k) = false := by simpa using k2
  by_cases hk : k = 0
  · have hk0 : (k == 0) = true := by rw [beq_iff_eq]; exact hk
    have hop2 : ((opName o).toList == []) = false := by
      rw [beq_eq_false_iff_ne]
      intro e
      exact hop hk (toList_inj (by rw [e, ByteArray.toList_eq]; rfl))
    clear hk hop
    subst hve
    go_enter Tryz.func16, Tryz.ntmps16
    go_wp2_with fail
    have HE1 := Lib.hid (Ext.alloc (Ext.rfl_ w) (Obj.cells #[Value.int IntKind.i64 k, Value.int IntKind.i64 c, Value.int IntKind.i64 o, Value.int IntKind.i64 vv, Value.int IntKind.i64 i, Value.int IntKind.i64 a, Value.int IntKind.i64 b, Value.int IntKind.u64 key, Value.int IntKind.u32 ck, Value.bool false, Value.slice da data.length dcap, Value.int IntKind.i64 nm, Value.slice fa files.length fcap] 56))
    first
      | go_region_held3 (fun W => W.cell? ⟨w.heap.size, 0, none⟩ = some (.int .i64 k) ∧ W.cell? ⟨w.heap.size, 2, none⟩ = some (.int .i64 o) ∧ W.cell? ⟨w.heap.size, 9, none⟩ = some (.bool false)) (first | go_keep) ((first | (go_at_call 36; go_must (with_reducible refine (names_calls2 _).mono ?_); rintro e wn ⟨rfl, rfl⟩) | (go_at_call 22; (with_reducible refine (op_calls _ _).mono ?_; rintro e wk ⟨rfl, rfl⟩))))
      | fail
    have HE2 := Lib.hid ((HE1.out.alloc (.cells nameArr 9)).drew)
    have HN2 := Lib.hid (show (((w.alloc (.cells #[Value.int IntKind.i64 k, Value.int IntKind.i64 c, Value.int IntKind.i64 o, Value.int IntKind.i64 vv, Value.int IntKind.i64 i, Value.int IntKind.i64 a, Value.int IntKind.i64 b, Value.int IntKind.u64 key, Value.int IntKind.u32 ck, Value.bool false, Value.slice da data.length dcap, Value.int IntKind.i64 nm, Value.slice fa files.length fcap] 56)).alloc (.cells nameArr 9)).drew).heap[w.heap.size]? = _ from alloc2_fst w _ _)
    go_wp2_with (first | (go_at_call 38; go_must (with_reducible refine (HW.out _ HE2.out).mono ?_); rintro e wb ⟨wv, rfl, hown, he⟩; obtain ⟨wa, wcap, rfl, hrow⟩ := hown.row; have HROW := Lib.hid (hrow.mono (B := fun _ => True) fun _ _ _ => trivial); have HE3 := Lib.hid (HE2.out.trans he); have HN3 := Lib.hid ((he.block _ (Array.getElem?_eq_some_iff.1 HN2.out).1).trans HN2.out); clear hown hrow he) | (go_at_call 37; go_must (with_reducible refine (HA.out _ HE3.out _ _ HROW.out).mono ?_); intro e wc hact; obtain ⟨da2, dcap2, fa2, fcap2, rfl, hv2, he⟩ := HAV.out _ _ _ hact; have HV2 := Lib.hid hv2; have HE4 := Lib.hid (HE3.out.trans he); obtain ⟨c0, c1, c2, c3, c4, c5, c6, c7, c8, c9, c10, c11, c12, cf⟩ := act_cells ((he.block _ (Array.getElem?_eq_some_iff.1 HN3.out).1).trans HN3.out); have hlt9 : w.heap.size < wc.heap.size := (Array.getElem?_eq_some_iff.1 ((he.block _ (Array.getElem?_eq_some_iff.1 HN3.out).1).trans HN3.out)).1; have hne9 : w.heap.size ≠ wc.heap.size := Nat.ne_of_lt hlt9; have HE6 := Lib.hid (HE4.out.alloc (.cells #[Value.int IntKind.i64 k, Value.int IntKind.i64 c, Value.int IntKind.i64 o, Value.int IntKind.i64 vv, Value.int IntKind.i64 i, Value.int IntKind.i64 a, Value.int IntKind.i64 b, Value.int IntKind.u64 key, Value.int IntKind.u32 ck, Value.bool false, Value.slice da2 data.length dcap2, Value.int IntKind.i64 nm, Value.slice fa2 files.length fcap2] 56)); clear hact hv2 he) | (go_at_call 39; go_must (with_reducible refine (HS.out _ HE6.out _ (HV2.out.below (Ext.alloc (Ext.rfl_ _) _))).mono ?_); rintro e wd ⟨rfl, he⟩; have HE5 := Lib.hid (HE6.out.trans he); clear he))
    all_goals go_ret
    all_goals exact ⟨rfl, HE5.out⟩
  · have hk0 : (k == 0) = false := by rw [beq_eq_false_iff_ne]; exact hk
    clear hk hop
    subst hve
    go_enter Tryz.func16, Tryz.ntmps16
    go_wp2_with fail
    have HE1 := Lib.hid (Ext.alloc (Ext.rfl_ w) (Obj.cells #[Value.int IntKind.i64 k, Value.int IntKind.i64 c, Value.int IntKind.i64 o, Value.int IntKind.i64 vv, Value.int IntKind.i64 i, Value.int IntKind.i64 a, Value.int IntKind.i64 b, Value.int IntKind.u64 key, Value.int IntKind.u32 ck, Value.bool false, Value.slice da data.length dcap, Value.int IntKind.i64 nm, Value.slice fa files.length fcap] 56))
    first
      | go_region_law ((go_simp; (first | (go_at_call 36; (with_reducible refine (names_calls2 _).mono ?_); rintro e wn ⟨rfl, rfl⟩) | (go_at_call 22; (with_reducible refine (op_calls _ _).mono ?_); rintro e wk ⟨rfl, rfl⟩))))
      | fail
    all_goals
      have HE2 := Lib.hid ((HE1.out.alloc (.cells nameArr 9)).drew)
      have HN2 := Lib.hid (show (((w.alloc (.cells #[Value.int IntKind.i64 k, Value.int IntKind.i64 c, Value.int IntKind.i64 o, Value.int IntKind.i64 vv, Value.int IntKind.i64 i, Value.int IntKind.i64 a, Value.int IntKind.i64 b, Value.int IntKind.u64 key, Value.int IntKind.u32 ck, Value.bool false, Value.slice da data.length dcap, Value.int IntKind.i64 nm, Value.slice fa files.length fcap] 56)).alloc (.cells nameArr 9)).drew).heap[w.heap.size]? = _ from alloc2_fst w _ _)
      go_wp2_with (first | (go_at_call 38; go_must (with_reducible refine (HW.out _ HE2.out).mono ?_); rintro e wb ⟨wv, rfl, hown, he⟩; obtain ⟨wa, wcap, rfl, hrow⟩ := hown.row; have HROW := Lib.hid (hrow.mono (B := fun _ => True) fun _ _ _ => trivial); have HE3 := Lib.hid (HE2.out.trans he); have HN3 := Lib.hid ((he.block _ (Array.getElem?_eq_some_iff.1 HN2.out).1).trans HN2.out); clear hown hrow he) | (go_at_call 37; go_must (with_reducible refine (HA.out _ HE3.out _ _ HROW.out).mono ?_); intro e wc hact; obtain ⟨da2, dcap2, fa2, fcap2, rfl, hv2, he⟩ := HAV.out _ _ _ hact; have HV2 := Lib.hid hv2; have HE4 := Lib.hid (HE3.out.trans he); obtain ⟨c0, c1, c2, c3, c4, c5, c6, c7, c8, c9, c10, c11, c12, cf⟩ := act_cells ((he.block _ (Array.getElem?_eq_some_iff.1 HN3.out).1).trans HN3.out); have hlt9 : w.heap.size < wc.heap.size := (Array.getElem?_eq_some_iff.1 ((he.block _ (Array.getElem?_eq_some_iff.1 HN3.out).1).trans HN3.out)).1; have hne9 : w.heap.size ≠ wc.heap.size := Nat.ne_of_lt hlt9; have HE6 := Lib.hid (HE4.out.alloc (.cells #[Value.int IntKind.i64 k, Value.int IntKind.i64 c, Value.int IntKind.i64 o, Value.int IntKind.i64 vv, Value.int IntKind.i64 i, Value.int IntKind.i64 a, Value.int IntKind.i64 b, Value.int IntKind.u64 key, Value.int IntKind.u32 ck, Value.bool false, Value.slice da2 data.length dcap2, Value.int IntKind.i64 nm, Value.slice fa2 files.length fcap2] 56)); clear hact hv2 he) | (go_at_call 39; go_must (with_reducible refine (HS.out _ HE6.out _ (HV2.out.below (Ext.alloc (Ext.rfl_ _) _))).mono ?_); rintro e wd ⟨rfl, he⟩; have HE5 := Lib.hid (HE6.out.trans he); clear he))
      all_goals go_ret
      all_goals exact ⟨rfl, HE5.out⟩
end Go.Proofs.YtjipffbnndbchaaGreatDoor
