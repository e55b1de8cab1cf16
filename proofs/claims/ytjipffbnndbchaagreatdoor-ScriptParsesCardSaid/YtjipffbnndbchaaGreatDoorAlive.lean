/- The walk of alive. -/
import Derived.Test.YtjipffbnndbchaaGreatDoorParse
import Derived.Test.YtjipffbnndbchaaGreatDoorLinW
import Derived.Test.YtjipffbnndbchaaGreatDoorCode
import Derived.Outline
namespace Go.Proofs.YtjipffbnndbchaaGreatDoor
open Go.RowKit
set_option maxRecDepth 100000

def aliveS : ByteArray := bs [98, 101, 103, 105, 110, 32, 48, 32, 112, 117, 116, 32, 49, 32, 55, 32, 48, 32, 54, 49, 54, 50, 10]
def aliveT : ByteArray := bs [98, 101, 103, 105, 110, 10]
def aliveAc : Ac := { kind := 0, c := 0, op := 1, v := 1, key := 7, cookie := 0, data := [97, 98] }
theorem aliveP : parseFrom aliveS.size aliveS = ([aliveAc], true) := by kernel_rfl
theorem aliveQ : parseFrom aliveT.size aliveT = ([], false) := by kernel_rfl
def aliveW : WC := ⟨0, 1, 3, 0, 0, false, [], 1, 2, 0, 0, 0, false, []⟩
theorem aliveL : sLinear [aliveW] = false := by decide
theorem row_one {α : Type} {d : Kd α} {w : World} {x : α} {cs : Array Value} {T : TypeId} (h : d.K (w.alloc (.cells cs T)) (fun _ => True) x cs.toList) : Row d (w.alloc (.cells cs T)) (fun _ => True) (some ⟨w.heap.size, 0, none⟩) 1 [x] := by
  refine ⟨by simp, by simp [maxLen], by simp, fun ad e _ => ?_⟩
  cases e
  refine ⟨rfl, trivial, by simp, cs.toList, Elems.single h, fun i u hu => ?_⟩
  have hh := heap_alloc_new w (.cells cs T)
  have hc : (w.alloc (.cells cs T)).cell? ⟨w.heap.size, 0 + i, none⟩ = cs[0 + i]? := by
    simp only [World.cell?, hh]
    rfl
  rw [hc, Nat.zero_add]
  simpa using hu
theorem aliveP_calls {B : Nat} (W : World) (hG : Glob B W) : Calls Tryz.prog 19 #[.string ⟨#[98, 101, 103, 105, 110, 32, 48, 32, 112, 117, 116, 32, 49, 32, 55, 32, 48, 32, 54, 49, 54, 50, 10]⟩] W fun e w' => ∃ a cap, e = .returned (.tuple #[.slice a 1 cap, .int .i64 0, .nilIface]) ∧ Row Kd.act w' (fun _ => True) a cap [aliveAc] ∧ Ext W w' := by
  refine (parse_calls aliveS W hG (by decide)).mono ?_
  rintro e w' ⟨h1, h2⟩
  rw [aliveP] at h2
  simp only [if_true] at h2
  obtain ⟨v, rfl, ho⟩ := h2
  obtain ⟨a, cap, rfl, hr⟩ := ho.row
  exact ⟨a, cap, rfl, hr.mono fun _ _ _ => trivial, h1⟩
theorem aliveQ_calls {B : Nat} (W : World) (hG : Glob B W) : Calls Tryz.prog 19 #[.string ⟨#[98, 101, 103, 105, 110, 10]⟩] W fun e w' => e = .returned (.tuple #[.slice none 0 0, .int .i64 1, codeV 4]) ∧ Ext W w' := by
  refine (parse_calls aliveT W hG (by decide)).mono ?_
  rintro e w' ⟨h1, h2⟩
  rw [aliveQ] at h2
  simp at h2
  exact ⟨h2, h1⟩
theorem alive_lin (W : World) : Calls Tryz.prog 11 #[.slice (some ⟨W.heap.size, 0, none⟩) 1 1] (W.alloc (.cells #[Value.int IntKind.i64 0, Value.int IntKind.i64 1, Value.int IntKind.i64 3, Value.int IntKind.u64 0, Value.int IntKind.u32 0, Value.bool false, Value.slice none 0 0, Value.int IntKind.i64 1, Value.int IntKind.i64 2, Value.int IntKind.i64 0, Value.int IntKind.u64 0, Value.int IntKind.u32 0, Value.bool false, Value.slice none 0 0] 33)) fun e w' => e = .returned (.bool false) ∧ Ext (W.alloc (.cells #[Value.int IntKind.i64 0, Value.int IntKind.i64 1, Value.int IntKind.i64 3, Value.int IntKind.u64 0, Value.int IntKind.u32 0, Value.bool false, Value.slice none 0 0, Value.int IntKind.i64 1, Value.int IntKind.i64 2, Value.int IntKind.i64 0, Value.int IntKind.u64 0, Value.int IntKind.u32 0, Value.bool false, Value.slice none 0 0] 33)) w' := by
  have := lin_calls [aliveW] (some ⟨W.heap.size, 0, none⟩) 1 (W.alloc (.cells #[Value.int IntKind.i64 0, Value.int IntKind.i64 1, Value.int IntKind.i64 3, Value.int IntKind.u64 0, Value.int IntKind.u32 0, Value.bool false, Value.slice none 0 0, Value.int IntKind.i64 1, Value.int IntKind.i64 2, Value.int IntKind.i64 0, Value.int IntKind.u64 0, Value.int IntKind.u32 0, Value.bool false, Value.slice none 0 0] 33)) (row_one ⟨none, 0, none, 0, rfl, by simp [aliveW, InK], Row.nil_, Row.nil_⟩) (by simp)
  rwa [aliveL] at this
set_option maxHeartbeats 1000000 in
theorem alive_calls {B : Nat} (w : World) (hG : Glob B w) : Calls Tryz.prog 6 #[] w fun e w' => e = .returned (.bool true) ∧ Ext w w' := by
  have HG := Lib.hid hG
  clear hG
  go_enter Tryz.func6, Tryz.ntmps6
  go_wp2_with (first | (go_at_call 19; (first | (with_reducible refine (aliveP_calls _ HG.out).mono ?_; rintro e w1 ⟨a, cap, rfl, hr, he⟩; have HR1 := Lib.hid hr; have HE1 := Lib.hid he; clear hr he) | (with_reducible refine (aliveQ_calls _ (HG.out.ext HE1.out)).mono ?_; rintro e w2 ⟨rfl, he⟩; have HR2 := Lib.hid (HR1.out.below he); have HE2 := Lib.hid (HE1.out.trans he); clear he))))
  have hEA : Ext w2 (w2.alloc (.cells #[Value.int IntKind.i64 0, Value.int IntKind.i64 1, Value.int IntKind.i64 3, Value.int IntKind.u64 0, Value.int IntKind.u32 0, Value.bool false, Value.slice none 0 0, Value.int IntKind.i64 1, Value.int IntKind.i64 2, Value.int IntKind.i64 0, Value.int IntKind.u64 0, Value.int IntKind.u32 0, Value.bool false, Value.slice none 0 0] 33)) := Ext.alloc (Ext.rfl_ _) _
  have HN := Lib.hid (heap_alloc_new w2 (.cells #[Value.int IntKind.i64 0, Value.int IntKind.i64 1, Value.int IntKind.i64 3, Value.int IntKind.u64 0, Value.int IntKind.u32 0, Value.bool false, Value.slice none 0 0, Value.int IntKind.i64 1, Value.int IntKind.i64 2, Value.int IntKind.i64 0, Value.int IntKind.u64 0, Value.int IntKind.u32 0, Value.bool false, Value.slice none 0 0] 33))
  have HEA := Lib.hid hEA
  clear hEA
  refine (code_nil _).mono ?_
  rintro e w3 ⟨rfl, he⟩
  have HR3 := Lib.hid ((HR2.out.below HEA.out).below he)
  have HN3 := Lib.hid ((he.block _ (Array.getElem?_eq_some_iff.1 HN.out).1).trans HN.out)
  have HE3 := Lib.hid (HE2.out.trans (HEA.out.trans he))
  clear he
  obtain ⟨b, off, da, dcap, fa, fcap, rfl, hrd, hrf, hc⟩ := act_at HR3.out 0 (by simp)
  have c7 := hc 7 _ rfl
  have c10 := hc 10 _ rfl
  simp only [aliveAc, Nat.zero_mul, Nat.add_zero, List.getElem_cons_zero, List.length_cons, List.length_nil] at c7 c10 hrd
  obtain ⟨db, doff, rfl, _, _⟩ := hrd.some_of (by simp)
  obtain ⟨_, ⟨rfl, _⟩, d0⟩ := hrd.at_ 0 (by simp)
  obtain ⟨_, ⟨rfl, _⟩, d1⟩ := hrd.at_ 1 (by simp)
  have d0 := d0 0 _ rfl
  have d1 := d1 0 _ rfl
  have hconv := run_convert_bytes_back (P := Tryz.prog) w3 23 9 5 ⟨db, doff, none⟩ dcap [97, 98] Tryz.underlying23 Tryz.underlying5 Tryz.underlying9 (fun j hj => by
    simp only [List.length_cons, List.length_nil] at hj
    rcases (show j = 0 ∨ j = 1 from by omega) with rfl | rfl
    · simpa [Addr.add, Kd.int, Kd.scalar] using d0
    · simpa [Addr.add, Kd.int, Kd.scalar] using d1)
  have hcv : (convert 23 9 (.slice (some ⟨db, doff, none⟩) 2 dcap)).run Tryz.prog w3 = .ok (.string ⟨#[97, 98]⟩) w3 := hconv
  have c10' : w3.cell? ⟨b, off + 10, none⟩ = some (.slice (some ⟨db, doff, none⟩) 2 dcap) := c10
  clear hrd hrf hc d0 d1 hconv c10
  go_wp2_with (first | (go_at_call 15; go_must (with_reducible refine (code_of 4 (by decide) (by decide) _).mono ?_); rintro e w4 ⟨rfl, he⟩; have HE4 := Lib.hid (HE3.out.trans he); have hn4 := (he.block _ (Array.getElem?_eq_some_iff.1 HN3.out).1).trans HN3.out; have hb : ∀ (o : Nat) u, #[Value.int IntKind.i64 0, Value.int IntKind.i64 1, Value.int IntKind.i64 3, Value.int IntKind.u64 0, Value.int IntKind.u32 0, Value.bool false, Value.slice none 0 0, Value.int IntKind.i64 1, Value.int IntKind.i64 2, Value.int IntKind.i64 0, Value.int IntKind.u64 0, Value.int IntKind.u32 0, Value.bool false, Value.slice none 0 0][o]? = some u → w4.cell? ⟨w2.heap.size, o, none⟩ = some u := (fun o u hu => by simp only [World.cell?, hn4]; exact hu); have b0 := hb 0 _ rfl; have b1 := hb 1 _ rfl; have b2 := hb 2 _ rfl; have b3 := hb 3 _ rfl; have b4 := hb 4 _ rfl; have b5 := hb 5 _ rfl; have b6 := hb 6 _ rfl; have b7 := hb 7 _ rfl; have b8 := hb 8 _ rfl; have b9 := hb 9 _ rfl; have b10 := hb 10 _ rfl; have b11 := hb 11 _ rfl; have b12 := hb 12 _ rfl; have b13 := hb 13 _ rfl; clear he hn4 hb) | (go_at_call 11; go_must (with_reducible refine (alive_lin _).mono ?_); rintro e w5 ⟨rfl, he⟩; have HE5 := Lib.hid (HE4.out.trans ((Ext.alloc (Ext.rfl_ w4) _).trans he)); clear he))
  go_ret
  exact ⟨rfl, HE5.out⟩
end Go.Proofs.YtjipffbnndbchaaGreatDoor
