/- The walks of script: the reader's pick, names, the act of words. -/
import Derived.Test.YtjipffbnndbchaaGreatDoorScrB
namespace Go.Proofs.YtjipffbnndbchaaGreatDoor
open Go.RowKit
set_option maxRecDepth 100000

def cutAt (x : ByteArray) (c : UInt8) : ByteArray × ByteArray × Bool :=
  (⟨(Lib.cut x.data.toList [c]).1.toArray⟩, ⟨(Lib.cut x.data.toList [c]).2.1.toArray⟩, (Lib.cut x.data.toList [c]).2.2)
theorem cut_calls (x : ByteArray) (c : UInt8) (hx : x.size ≤ 2000000) {B : Nat} (w : World) (hG : Glob B w) :
    Calls Tryz.prog 43 #[.string x, .string ⟨#[c]⟩] w fun e w' => e = .returned (.tuple #[.string (cutAt x c).1, .string (cutAt x c).2.1, .bool (cutAt x c).2.2]) ∧ ∃ n, w' = w.drewN n := by
  obtain ⟨m, hm⟩ := hG.max
  exact Tryz.strings_Cut x ⟨#[c]⟩ m w (by omega) hm
theorem cutAt_size (x : ByteArray) (c : UInt8) : (cutAt x c).1.size ≤ x.size ∧ (cutAt x c).2.1.size ≤ x.size := by
  have := Lib.index_le x.data.toList [c]
  simp only [cutAt, Lib.cut]
  split
  · simp only [ByteArray.size, List.size_toArray, List.length_take, List.length_drop, Array.length_toList] at *
    omega
  · simp only [ByteArray.size, List.size_toArray, Array.length_toList, List.length_nil]
    omega

structure Pk where
  keep : Int
  turn : Int
/-- A file's pick, and whether something was bad. -/
def pickOf (x : ByteArray) : Pk × Bool :=
  (⟨(atoiR (cutAt x 58).1).1, ((uintR 8 (cutAt x 58).2.1).1 : Int) % 256⟩, (atoiR (cutAt x 58).1).2 || (uintR 8 (cutAt x 58).2.1).2)
def Pk.val (p : Pk) : Value := .agg #[.int .i64 p.keep, .int .u8 p.turn]

set_option maxHeartbeats 1000000 in
theorem pick_calls {B : Nat} (r : Nat) (ws : List ByteArray) (bad : Bool) (w : World) (h : Rdr w r ws bad) (hs : Small ws) (hG : Glob B w) (hB : B ≤ r) :
    Calls Tryz.prog 64 #[.pointer (some ⟨r, 0, none⟩)] w fun e w' => e = .returned (pickOf (ws.headD (bs []))).1.val ∧ Rdr w' r ws.tail ((bad || ws.isEmpty) || (pickOf (ws.headD (bs []))).2) ∧ Only (· = r) w w' := by
  have hN := fun W => fun (e : Ext w W) => next_calls r ws bad W (h.ext e)
  have hrl := h.lt
  have hsz := hs.head
  unfold pickOf
  generalize ws.headD (bs []) = x at *
  generalize (bad || ws.isEmpty) = bd at *
  have hC := fun W => fun (o : Only (· = r) w W) => cut_calls x 58 (by omega) W (hG.only o (fun k e => by subst e; exact hB))
  obtain ⟨c1, c2⟩ := cutAt_size x 58
  generalize cutAt x 58 = ct at *
  obtain ⟨kp, tn, fnd⟩ := ct
  simp only at c1 c2 hC ⊢
  have hA := fun W => fun (o : Only (· = r) w W) => atoi_calls kp (by omega) W (hG.only o (fun k e => by subst e; exact hB))
  have hU := fun W => fun (o : Only (· = r) w W) => parseUint8_calls tn (by omega) W (hG.only o (fun k e => by subst e; exact hB))
  have HN := Lib.hid hN
  have HC := Lib.hid hC
  have HA := Lib.hid hA
  have HU := Lib.hid hU
  clear hA hU hC h hs hN hsz c1 c2
  generalize atoiR kp = n at *
  generalize uintR 8 tn = u at *
  obtain ⟨n, e1⟩ := n
  obtain ⟨u, e2⟩ := u
  go_enter Tryz.func64, Tryz.ntmps64
  have HE0 := Lib.hid (Ext.alloc (Ext.rfl_ w) (Obj.cells #[Value.int IntKind.i64 0, Value.int IntKind.u8 0] 108))
  have HH0 := Lib.hid (heap_alloc_new w (Obj.cells #[Value.int IntKind.i64 0, Value.int IntKind.u8 0] 108))
  cases e1 <;> cases e2
  all_goals go_wp2_with (first | (go_at_call 59; go_must (with_reducible refine (HN.out _ HE0.out).mono ?_); rintro e w1 ⟨rfl, hr, ho⟩; have HR1 := Lib.hid hr; have HO1 := Lib.hid ho; have HOA := Lib.hid ((Only.of_ext HE0.out).trans ho); have HH1 := Lib.hid ((ho.block w.heap.size (by simp) (by omega)).trans HH0.out); clear hr ho) | (go_at_call 43; go_must (with_reducible refine (HC.out _ HOA.out).mono ?_); rintro e w2 ⟨rfl, nd, rfl⟩; have HOB := Lib.hid (HOA.out.drewN nd)) | (go_at_call 86; go_must (with_reducible refine (HA.out _ HOB.out).mono ?_); rintro e w3 ⟨v, rfl, hv, hb⟩; have HB2 := Lib.hid hb; (first | (obtain rfl := errIs_false hv) | (obtain ⟨N, rfl⟩ := errIs_true hv)); clear hv; have HE3 := Lib.hid ((Ext.drewN (Ext.rfl_ w1) nd).trans hb); have HOC := Lib.hid (HOB.out.then_ext hb); clear hb) | (go_at_call 87; go_must (with_reducible refine (HU.out _ HOC.out).mono ?_); rintro e w4 ⟨v, rfl, hv, hb⟩; have HB2 := Lib.hid hb; (first | (obtain rfl := errIs_false hv) | (obtain ⟨N, rfl⟩ := errIs_true hv)); clear hv; have HE4 := Lib.hid (HE3.out.trans hb); have HOD := Lib.hid (HOC.out.then_ext hb); obtain ⟨k1, k2⟩ := (HR1.out.ext HE4.out).cells; have hh4 := (HE4.out.block w.heap.size (by have := HO1.out.size; simp at this; omega)).trans HH1.out; have d0 : w4.cell? ⟨w.heap.size, 0, none⟩ = some (.int .i64 0) := (by simp [World.cell?, hh4]); have d1 : w4.cell? ⟨w.heap.size, 1, none⟩ = some (.int .u8 0) := (by simp [World.cell?, hh4]); have g0 : w4.frozen? ⟨w.heap.size, 0, none⟩ = false := (by simp [World.frozen?, hh4]); have g1 : w4.frozen? ⟨w.heap.size, 1, none⟩ = false := (by simp [World.frozen?, hh4]); have HH4 := Lib.hid hh4; clear hh4; clear hb))
  all_goals refine bodyPost_ret (v := .agg #[.int .i64 n, .int .u8 ((u : Int) % 256)]) (by simp [results, Tryz.results64, go_sem, *]) rfl ⟨rfl, ?_, ?_⟩
  all_goals first
    | (refine Rdr.set_above (Rdr.set_above ?_ (by simp; omega) (by simp; omega) _) (by simp; omega) (by simp; omega) _
       have := HR1.out.ext HE4.out
       first | (simpa using this.setBad true) | (simp_all; done) | (have := this.setBad bd; simp_all; done))
    | exact ((HOD.out.set (p := ⟨r, 1, none⟩) (fun _ => rfl) _).set (p := ⟨w.heap.size, 0, none⟩) (fun h => absurd h (Nat.lt_irrefl _)) _).set (p := ⟨w.heap.size, 1, none⟩) (fun h => absurd h (Nat.lt_irrefl _)) _

def nameList : List ByteArray := [bs [98, 101, 103, 105, 110], bs [115, 101, 110, 100], bs [99, 111, 109, 101], bs [108, 111, 115, 101], bs [116, 119, 105, 99, 101], bs [99, 117, 116], bs [106, 111, 105, 110], bs [119, 111, 114, 107], bs [97, 114, 109], bs [99, 114, 97, 115, 104], bs [115, 116, 97, 114, 116], bs [113, 117, 105, 116]]
set_option maxHeartbeats 1000000 in
theorem names_calls (w : World) : Calls Tryz.prog 36 #[] w fun e w' => e = .returned (.slice (some ⟨w.heap.size, 0, none⟩) 12 12) ∧ w' = w.alloc (.cells (nameList.map Value.string).toArray 9) := by
  go_enter Tryz.func36, Tryz.ntmps36
  go_wp2
  go_ret
  exact ⟨rfl, rfl⟩
end Go.Proofs.YtjipffbnndbchaaGreatDoor
