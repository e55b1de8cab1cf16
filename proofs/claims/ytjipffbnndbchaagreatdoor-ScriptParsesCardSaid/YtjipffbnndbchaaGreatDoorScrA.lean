/- The walks of script: names, op, num, the reader's methods. -/
import Derived.Test.YtjipffbnndbchaaGreatDoorGlob
import Derived.WideLaws
import Derived.LaidEql
namespace Go.Proofs.YtjipffbnndbchaaGreatDoor
open Go.RowKit
set_option maxRecDepth 100000

/-- The reader: what words are left, and whether something was bad. -/
def Rdr (w : World) (r : Nat) (ws : List ByteArray) (bad : Bool) : Prop :=
  ∃ a cap, w.heap[r]? = some (.cells #[.slice a ws.length cap, .bool bad] 123 (0, 0)) ∧ Row Kd.str w (fun k => k + 1 < r) a cap ws
theorem Rdr.lt {w : World} {r : Nat} {ws : List ByteArray} {bad : Bool} (h : Rdr w r ws bad) : r < w.heap.size := by
  obtain ⟨a, cap, h, _⟩ := h
  exact (Array.getElem?_eq_some_iff.1 h).1
theorem Rdr.ext {w w' : World} {r : Nat} {ws : List ByteArray} {bad : Bool} (h : Rdr w r ws bad) (e : Ext w w') : Rdr w' r ws bad := by
  have := h.lt
  obtain ⟨a, cap, h1, h2⟩ := h
  exact ⟨a, cap, (e.block _ this).trans h1, h2.below e⟩
theorem Rdr.only {w w' : World} {r : Nat} {ws : List ByteArray} {bad : Bool} {S : Nat → Prop} (h : Rdr w r ws bad) (e : Only S w w') (hS : ∀ k, k < w.heap.size → ¬ S k) : Rdr w' r ws bad := h.ext (e.ext hS)
theorem str_at {w : World} {A : Nat → Prop} {a : Option Addr} {cap : Nat} {l : List ByteArray} (h : Row Kd.str w A a cap l) (i : Nat) (hi : i < l.length) :
    ∃ b off, a = some ⟨b, off, none⟩ ∧ b < w.heap.size ∧ A b ∧ w.cell? ⟨b, off + i, none⟩ = some (.string l[i]) := by
  obtain ⟨b, off, rfl, hb, hA⟩ := h.some_of (by omega)
  obtain ⟨c, hk, hc⟩ := h.at_ i hi
  simp at hk
  subst hk
  refine ⟨b, off, rfl, hb, hA, ?_⟩
  have := hc 0 _ rfl
  simpa [Kd.str, Kd.scalar] using this

set_option maxHeartbeats 1000000 in
theorem next_calls (r : Nat) (ws : List ByteArray) (bad : Bool) (w : World) (h : Rdr w r ws bad) :
    Calls Tryz.prog 59 #[.pointer (some ⟨r, 0, none⟩)] w fun e w' => e = .returned (.string (ws.headD (bs []))) ∧ Rdr w' r ws.tail (bad || ws.isEmpty) ∧ Only (· = r) w w' := by
  have hlt := h.lt
  obtain ⟨a, cap, hb, hrow⟩ := h
  have c0 : w.cell? ⟨r, 0, none⟩ = some (.slice a ws.length cap) := by simp [World.cell?, hb]
  have c1 : w.cell? ⟨r, 1, none⟩ = some (.bool bad) := by simp [World.cell?, hb]
  have f0 : w.frozen? ⟨r, 0, none⟩ = false := by simp [World.frozen?, hb]
  have f1 : w.frozen? ⟨r, 1, none⟩ = false := by simp [World.frozen?, hb]
  have HB := Lib.hid hb
  have HR := Lib.hid hrow
  clear hb hrow
  cases ws with
  | nil =>
    go_enter Tryz.func59, Tryz.ntmps59
    go_wp2
    go_ret
    refine ⟨rfl, ⟨a, cap, by simpa using set_cells HB.out 1 (.bool true), Row.empty HR.out.2.2.1 HR.out.2.1⟩, (Only.refl (· = r) w).set (p := ⟨r, 1, none⟩) (fun _ => rfl) _⟩
  | cons x t =>
    obtain ⟨b, off, rfl, hbw, hne, hx⟩ := str_at HR.out 0 (by simp)
    simp only [List.getElem_cons_zero, Nat.add_zero] at hx
    have hcap : t.length + 1 ≤ cap := HR.out.1
    have hcm : cap ≤ 9223372036854775807 := HR.out.2.1
    have HTAIL := Lib.hid (show ∀ W : World, (∀ k, k < w.heap.size → k ≠ r → W.heap[k]? = w.heap[k]?) → w.heap.size ≤ W.heap.size → Row Kd.str W (fun k => k + 1 < r) (some ⟨b, off + 1, none⟩) (cap - 1) t from fun W hk hs => (Row.tail HR.out).keep (fun k hne hlt => hk k hlt (by omega)) hs)
    by_cases h1 : cap = 1
    · subst h1
      have ht : t = [] := List.eq_nil_of_length_eq_zero (by omega)
      subst ht
      go_enter Tryz.func59, Tryz.ntmps59
      go_wp2
      go_ret
      exact ⟨rfl, ⟨_, _, by simpa using set_cells HB.out 0 _, Row.empty (by simp) (by simp [maxLen])⟩, (Only.refl (· = r) w).set (p := ⟨r, 0, none⟩) (fun _ => rfl) _⟩
    · have h2 : 1 < cap := by omega
      go_enter Tryz.func59, Tryz.ntmps59
      go_wp2
      go_ret
      refine ⟨rfl, ⟨some ⟨b, off + 1, none⟩, cap - 1, ?_, HTAIL.out _ (fun k _ hne => set_other hne _) (by simp [World.setCell])⟩, (Only.refl (· = r) w).set (p := ⟨r, 0, none⟩) (fun _ => rfl) _⟩
      have := set_cells HB.out 0 (.slice (some ⟨b, off + 1, none⟩) t.length (cap - 1))
      simpa using this

def Small (ws : List ByteArray) : Prop := ∀ x ∈ ws, x.size ≤ 1000000
theorem Small.head {ws : List ByteArray} (h : Small ws) : (ws.headD (bs [])).size ≤ 1000000 := by
  cases ws with
  | nil => simp
  | cons x t => exact h x (by simp)
theorem Small.tail {ws : List ByteArray} (h : Small ws) : Small ws.tail := fun x hx => h x (List.mem_of_mem_tail hx)
theorem Rdr.cells {w : World} {r : Nat} {ws : List ByteArray} {bad : Bool} (h : Rdr w r ws bad) : w.cell? ⟨r, 1, none⟩ = some (.bool bad) ∧ w.frozen? ⟨r, 1, none⟩ = false := by
  obtain ⟨a, cap, hb, _⟩ := h
  simp [World.cell?, World.frozen?, hb]
theorem Rdr.setBad {w : World} {r : Nat} {ws : List ByteArray} {bad : Bool} (h : Rdr w r ws bad) (b : Bool) : Rdr (w.setCell ⟨r, 1, none⟩ (.bool b)) r ws b := by
  obtain ⟨a, cap, hb, hr⟩ := h
  exact ⟨a, cap, by simpa using set_cells hb 1 (.bool b), hr.keep (fun k hne _ => set_other (by omega) _) (by simp [World.setCell])⟩
/-- A store above the reader, or into the block just below. -/
theorem Rdr.set_above {w : World} {r : Nat} {ws : List ByteArray} {bad : Bool} (h : Rdr w r ws bad) {p : Addr} (hp : r ≤ p.block + 1) (hr : p.block ≠ r) (v : Value) : Rdr (w.setCell p v) r ws bad := by
  obtain ⟨a, cap, hb, hr⟩ := h
  exact ⟨a, cap, (Below.heap_setCell w p v r (by omega)).trans hb, hr.keep (fun k hk _ => Below.heap_setCell w p v k (by omega)) (by simp [World.setCell])⟩

set_option maxHeartbeats 1000000 in
theorem num_calls {B : Nat} (r : Nat) (ws : List ByteArray) (bad : Bool) (w : World) (h : Rdr w r ws bad) (hs : Small ws) (hG : Glob B w) (hB : B ≤ r) :
    Calls Tryz.prog 60 #[.pointer (some ⟨r, 0, none⟩)] w fun e w' => e = .returned (.int .i64 (atoiR (ws.headD (bs []))).1) ∧ Rdr w' r ws.tail ((bad || ws.isEmpty) || (atoiR (ws.headD (bs []))).2) ∧ Only (· = r) w w' := by
  have hN := next_calls r ws bad w h
  have hA := fun W => fun (o : Only (· = r) w W) => atoi_calls (ws.headD (bs [])) hs.head W (hG.only o (fun k e => by subst e; exact hB))
  generalize ws.headD (bs []) = x at *
  generalize (bad || ws.isEmpty) = bd at *
  have HN := Lib.hid hN
  have HA := Lib.hid hA
  clear hA h hs hN
  generalize atoiR x = n at *
  obtain ⟨n, err⟩ := n
  cases err
  · go_enter Tryz.func60, Tryz.ntmps60
    go_wp2_with (first | (go_at_call 59; go_must (with_reducible refine HN.out.mono ?_); rintro e w1 ⟨rfl, hr, ho⟩; have HR1 := Lib.hid hr; have HO1 := Lib.hid ho; clear hr ho) | (go_at_call 86; go_must (with_reducible refine (HA.out _ HO1.out).mono ?_); rintro e w2 ⟨v, rfl, hv, hb⟩; have HB2 := Lib.hid hb; obtain rfl : v = .nilIface := (by simpa [ErrIs] using hv); obtain ⟨k1, k2⟩ := (HR1.out.ext hb).cells; clear hb hv))
    all_goals go_light
    all_goals go_ret
    all_goals (refine ⟨rfl, ?_, (HO1.out.then_ext HB2.out).set (p := ⟨r, 1, none⟩) (fun _ => rfl) _⟩; have := (HR1.out.ext HB2.out).setBad bd; first | simpa using this | (simp_all; done))
  · go_enter Tryz.func60, Tryz.ntmps60
    go_wp2_with (first | (go_at_call 59; go_must (with_reducible refine HN.out.mono ?_); rintro e w1 ⟨rfl, hr, ho⟩; have HR1 := Lib.hid hr; have HO1 := Lib.hid ho; clear hr ho) | (go_at_call 86; go_must (with_reducible refine (HA.out _ HO1.out).mono ?_); rintro e w2 ⟨v, rfl, hv, hb⟩; have HB2 := Lib.hid hb; obtain ⟨N, rfl⟩ : ∃ N : Nat, v = .iface 178 (.pointer (some ⟨N, 0, none⟩)) := (by simpa [ErrIs] using hv); obtain ⟨k1, k2⟩ := (HR1.out.ext hb).cells; clear hb hv))
    all_goals go_light
    all_goals go_ret
    all_goals (refine ⟨rfl, ?_, (HO1.out.then_ext HB2.out).set (p := ⟨r, 1, none⟩) (fun _ => rfl) _⟩; have := (HR1.out.ext HB2.out).setBad true; first | simpa using this | (simp_all; done))

set_option maxHeartbeats 1000000 in
theorem big64_calls {B : Nat} (r : Nat) (ws : List ByteArray) (bad : Bool) (w : World) (h : Rdr w r ws bad) (hs : Small ws) (hG : Glob B w) (hB : B ≤ r) :
    Calls Tryz.prog 62 #[.pointer (some ⟨r, 0, none⟩), .int .i64 64] w fun e w' => e = .returned (.int .u64 (uintR 64 (ws.headD (bs []))).1) ∧ Rdr w' r ws.tail ((bad || ws.isEmpty) || (uintR 64 (ws.headD (bs []))).2) ∧ Only (· = r) w w' := by
  have hA := fun W => fun (o : Only (· = r) w W) => parseUint64_calls (ws.headD (bs [])) hs.head W (hG.only o (fun k e => by subst e; exact hB))
  have hN := next_calls r ws bad w h
  have hsz := hs.head
  generalize ws.headD (bs []) = x at *
  generalize (bad || ws.isEmpty) = bd at *
  have HN := Lib.hid hN
  clear hN
  have HA := Lib.hid hA
  clear hA h hs hsz
  generalize uintR 64 x = n at *
  obtain ⟨n, err⟩ := n
  cases err
  · go_enter Tryz.func62, Tryz.ntmps62
    go_wp2_with (first | (go_at_call 59; go_must (with_reducible refine HN.out.mono ?_); rintro e w1 ⟨rfl, hr, ho⟩; have HR1 := Lib.hid hr; have HO1 := Lib.hid ho; obtain ⟨n1, n2⟩ := hr.cells; clear hr ho) | (go_at_call 87; go_must (with_reducible refine (HA.out _ HO1.out).mono ?_); rintro e w2 ⟨v, rfl, hv, hb⟩; have HB2 := Lib.hid hb; obtain rfl : v = .nilIface := (by simpa [ErrIs] using hv); obtain ⟨k1, k2⟩ := (HR1.out.ext hb).cells; clear hb hv))
    all_goals go_light
    all_goals go_ret
    all_goals (refine ⟨rfl, ?_, (HO1.out.then_ext HB2.out).set (p := ⟨r, 1, none⟩) (fun _ => rfl) _⟩; have := (HR1.out.ext HB2.out).setBad bd; first | simpa using this | (simp_all; done))
  · go_enter Tryz.func62, Tryz.ntmps62
    go_wp2_with (first | (go_at_call 59; go_must (with_reducible refine HN.out.mono ?_); rintro e w1 ⟨rfl, hr, ho⟩; have HR1 := Lib.hid hr; have HO1 := Lib.hid ho; obtain ⟨n1, n2⟩ := hr.cells; clear hr ho) | (go_at_call 87; go_must (with_reducible refine (HA.out _ HO1.out).mono ?_); rintro e w2 ⟨v, rfl, hv, hb⟩; have HB2 := Lib.hid hb; obtain ⟨N, rfl⟩ : ∃ N : Nat, v = .iface 178 (.pointer (some ⟨N, 0, none⟩)) := (by simpa [ErrIs] using hv); obtain ⟨k1, k2⟩ := (HR1.out.ext hb).cells; clear hb hv))
    all_goals go_light
    all_goals go_ret
    all_goals (refine ⟨rfl, ?_, (HO1.out.then_ext HB2.out).set (p := ⟨r, 1, none⟩) (fun _ => rfl) _⟩; have := (HR1.out.ext HB2.out).setBad true; first | simpa using this | (simp_all; done))

set_option maxHeartbeats 1000000 in
theorem big32_calls {B : Nat} (r : Nat) (ws : List ByteArray) (bad : Bool) (w : World) (h : Rdr w r ws bad) (hs : Small ws) (hG : Glob B w) (hB : B ≤ r) :
    Calls Tryz.prog 62 #[.pointer (some ⟨r, 0, none⟩), .int .i64 32] w fun e w' => e = .returned (.int .u64 (uintR 32 (ws.headD (bs []))).1) ∧ Rdr w' r ws.tail ((bad || ws.isEmpty) || (uintR 32 (ws.headD (bs []))).2) ∧ Only (· = r) w w' := by
  have hA := fun W => fun (o : Only (· = r) w W) => parseUint32_calls (ws.headD (bs [])) hs.head W (hG.only o (fun k e => by subst e; exact hB))
  have hN := next_calls r ws bad w h
  have hsz := hs.head
  generalize ws.headD (bs []) = x at *
  generalize (bad || ws.isEmpty) = bd at *
  have HN := Lib.hid hN
  clear hN
  have HA := Lib.hid hA
  clear hA h hs hsz
  generalize uintR 32 x = n at *
  obtain ⟨n, err⟩ := n
  cases err
  · go_enter Tryz.func62, Tryz.ntmps62
    go_wp2_with (first | (go_at_call 59; go_must (with_reducible refine HN.out.mono ?_); rintro e w1 ⟨rfl, hr, ho⟩; have HR1 := Lib.hid hr; have HO1 := Lib.hid ho; obtain ⟨n1, n2⟩ := hr.cells; clear hr ho) | (go_at_call 87; go_must (with_reducible refine (HA.out _ HO1.out).mono ?_); rintro e w2 ⟨v, rfl, hv, hb⟩; have HB2 := Lib.hid hb; obtain rfl : v = .nilIface := (by simpa [ErrIs] using hv); obtain ⟨k1, k2⟩ := (HR1.out.ext hb).cells; clear hb hv))
    all_goals go_light
    all_goals go_ret
    all_goals (refine ⟨rfl, ?_, (HO1.out.then_ext HB2.out).set (p := ⟨r, 1, none⟩) (fun _ => rfl) _⟩; have := (HR1.out.ext HB2.out).setBad bd; first | simpa using this | (simp_all; done))
  · go_enter Tryz.func62, Tryz.ntmps62
    go_wp2_with (first | (go_at_call 59; go_must (with_reducible refine HN.out.mono ?_); rintro e w1 ⟨rfl, hr, ho⟩; have HR1 := Lib.hid hr; have HO1 := Lib.hid ho; obtain ⟨n1, n2⟩ := hr.cells; clear hr ho) | (go_at_call 87; go_must (with_reducible refine (HA.out _ HO1.out).mono ?_); rintro e w2 ⟨v, rfl, hv, hb⟩; have HB2 := Lib.hid hb; obtain ⟨N, rfl⟩ : ∃ N : Nat, v = .iface 178 (.pointer (some ⟨N, 0, none⟩)) := (by simpa [ErrIs] using hv); obtain ⟨k1, k2⟩ := (HR1.out.ext hb).cells; clear hb hv))
    all_goals go_light
    all_goals go_ret
    all_goals (refine ⟨rfl, ?_, (HO1.out.then_ext HB2.out).set (p := ⟨r, 1, none⟩) (fun _ => rfl) _⟩; have := (HR1.out.ext HB2.out).setBad true; first | simpa using this | (simp_all; done))

theorem toList_inj {a b : ByteArray} (h : a.toList = b.toList) : a = b := by
  rw [ByteArray.toList_eq, ByteArray.toList_eq] at h
  have e : a.data = b.data := by have := congrArg List.toArray h; simpa using this
  cases a; cases b; simp at e; rw [e]
def sPut : ByteArray := bs [112, 117, 116]
def sGet : ByteArray := bs [103, 101, 116]
def sDel : ByteArray := bs [100, 101, 108]
/-- An operation's name. -/
def opName (n : Int) : ByteArray := if n = 1 then sPut else if n = 3 then sGet else if n = 4 then sDel else bs []
set_option maxHeartbeats 400000 in
theorem op_calls (n : Int) (w : World) : Calls Tryz.prog 22 #[.int .i64 n] w fun e w' => e = .returned (.string (opName n)) ∧ w = w' := by
  go_enter Tryz.func22, Tryz.ntmps22
  go_wp2
  all_goals go_ret
  all_goals (refine ⟨ret_str (b := opName n) ?_, rfl⟩; simp_all [opName, sPut, sGet, sDel, bs])
def opOf (x : ByteArray) : Int × Bool := if x = sPut then (1, false) else if x = sGet then (3, false) else if x = sDel then (4, false) else (0, true)
set_option maxHeartbeats 1000000 in
theorem rop_calls (r : Nat) (ws : List ByteArray) (bad : Bool) (w : World) (h : Rdr w r ws bad) :
    Calls Tryz.prog 61 #[.pointer (some ⟨r, 0, none⟩)] w fun e w' => e = .returned (.int .i64 (opOf (ws.headD (bs []))).1) ∧ Rdr w' r ws.tail ((bad || ws.isEmpty) || (opOf (ws.headD (bs []))).2) ∧ Only (· = r) w w' := by
  have hN := next_calls r ws bad w h
  generalize ws.headD (bs []) = x at *
  generalize (bad || ws.isEmpty) = bd at *
  have HN := Lib.hid hN
  clear hN h
  go_enter Tryz.func61, Tryz.ntmps61
  go_wp2_with (first | (go_at_call 59; go_must (with_reducible refine HN.out.mono ?_); rintro e w1 ⟨rfl, hr, ho⟩; have HR1 := Lib.hid hr; have HO1 := Lib.hid ho; obtain ⟨n1, n2⟩ := hr.cells; clear hr ho) | (go_at_call 22; go_must (with_reducible refine (op_calls _ _).mono ?_); rintro e w2 ⟨rfl, rfl⟩))
  have HW := Lib.hid (Ext.alloc (Ext.rfl_ w1) (Obj.cells #[Value.int IntKind.i64 1, Value.int IntKind.i64 3, Value.int IntKind.i64 4] 3))
  go_loopw [10] (fun i wr => ∃ k : Nat, k ≤ 3 ∧ i = .int .i64 k ∧ wr = w1.alloc (Obj.cells #[Value.int IntKind.i64 1, Value.int IntKind.i64 3, Value.int IntKind.i64 4] 3) ∧ (0 < k → x ≠ sPut) ∧ (1 < k → x ≠ sGet) ∧ (2 < k → x ≠ sDel)) (fun i _ => 3 - (intOf i).toNat)
  case atStart => exact ⟨0, by omega, rfl, rfl, by omega, by omega, by omega⟩
  case round =>
    obtain ⟨k, hk, rfl, rfl, e1, e2, e3⟩ := hrel
    have E1 := Lib.hid e1
    have E2 := Lib.hid e2
    have E3 := Lib.hid e3
    clear e1 e2 e3
    rcases (show k = 0 ∨ k = 1 ∨ k = 2 ∨ k = 3 from by omega) with rfl | rfl | rfl | rfl
    · by_cases hx : opName 1 = x
      · have hx' : ((opName 1).toList == x.toList) = true := by rw [hx]; simp
        have HX := Lib.hid hx
        clear hx
        go_wp2_with (first | (go_at_call 22; go_must (with_reducible refine (op_calls _ _).mono ?_); rintro e w2 ⟨rfl, rfl⟩))
        go_ret
        refine ⟨ret_int ?_, ?_, HO1.out.then_ext HW.out⟩
        · rw [← HX.out]; rfl
        · have := HR1.out.ext HW.out
          have e : (opOf x).2 = false := by rw [← HX.out]; rfl
          rw [e, Bool.or_false]; exact this
      · have hx' : ((opName 1).toList == x.toList) = false := by rw [beq_eq_false_iff_ne]; intro e; exact hx (toList_inj e)
        have HX := Lib.hid hx
        clear hx
        go_wp2_with (first | (go_at_call 22; go_must (with_reducible refine (op_calls _ _).mono ?_); rintro e w2 ⟨rfl, rfl⟩))
        go_roundw
        case rel => exact ⟨1, by omega, by go_num, by trivial, fun _ e => HX.out e.symm, fun h => by omega, fun h => by omega⟩
        case measure => simp [intOf]
    · by_cases hx : opName 3 = x
      · have hx' : ((opName 3).toList == x.toList) = true := by rw [hx]; simp
        have HX := Lib.hid hx
        clear hx
        go_wp2_with (first | (go_at_call 22; go_must (with_reducible refine (op_calls _ _).mono ?_); rintro e w2 ⟨rfl, rfl⟩))
        go_ret
        refine ⟨ret_int ?_, ?_, HO1.out.then_ext HW.out⟩
        · rw [← HX.out]; rfl
        · have := HR1.out.ext HW.out
          have e : (opOf x).2 = false := by rw [← HX.out]; rfl
          rw [e, Bool.or_false]; exact this
      · have hx' : ((opName 3).toList == x.toList) = false := by rw [beq_eq_false_iff_ne]; intro e; exact hx (toList_inj e)
        have HX := Lib.hid hx
        clear hx
        go_wp2_with (first | (go_at_call 22; go_must (with_reducible refine (op_calls _ _).mono ?_); rintro e w2 ⟨rfl, rfl⟩))
        go_roundw
        case rel => exact ⟨2, by omega, by go_num, by trivial, fun _ => E1.out (by omega), fun _ e => HX.out e.symm, fun h => by omega⟩
        case measure => simp [intOf]
    · by_cases hx : opName 4 = x
      · have hx' : ((opName 4).toList == x.toList) = true := by rw [hx]; simp
        have HX := Lib.hid hx
        clear hx
        go_wp2_with (first | (go_at_call 22; go_must (with_reducible refine (op_calls _ _).mono ?_); rintro e w2 ⟨rfl, rfl⟩))
        go_ret
        refine ⟨ret_int ?_, ?_, HO1.out.then_ext HW.out⟩
        · rw [← HX.out]; rfl
        · have := HR1.out.ext HW.out
          have e : (opOf x).2 = false := by rw [← HX.out]; rfl
          rw [e, Bool.or_false]; exact this
      · have hx' : ((opName 4).toList == x.toList) = false := by rw [beq_eq_false_iff_ne]; intro e; exact hx (toList_inj e)
        have HX := Lib.hid hx
        clear hx
        go_wp2_with (first | (go_at_call 22; go_must (with_reducible refine (op_calls _ _).mono ?_); rintro e w2 ⟨rfl, rfl⟩))
        go_roundw
        case rel => exact ⟨3, by omega, by go_num, by trivial, fun _ => E1.out (by omega), fun _ => E2.out (by omega), fun _ e => HX.out e.symm⟩
        case measure => simp [intOf]
    · have hb := (HR1.out.ext HW.out).cells
      obtain ⟨k1, k2⟩ := hb
      go_wp2
      go_ret
      have e : opOf x = (0, true) := by
        unfold opOf
        rw [if_neg (E1.out (by omega)), if_neg (E2.out (by omega)), if_neg (E3.out (by omega))]
      refine ⟨ret_int (by rw [e]), ?_, (HO1.out.then_ext HW.out).set (p := ⟨r, 1, none⟩) (fun _ => rfl) _⟩
      rw [e, Bool.or_true]
      exact (HR1.out.ext HW.out).setBad true

/-- Hex digits' values; below 0: it is none. -/
def hexOf (c : UInt8) : Int := Lib.indexByte [48, 49, 50, 51, 52, 53, 54, 55, 56, 57, 97, 98, 99, 100, 101, 102] c
theorem indexByte_lt (c : UInt8) : ∀ l : List UInt8, Lib.indexByte l c < l.length
  | [] => by simp [Lib.indexByte]
  | b :: l => by
    have := indexByte_lt c l
    simp only [Lib.indexByte, List.length_cons]
    split
    · omega
    · split <;> omega
theorem hexOf_bd (c : UInt8) : -1 ≤ hexOf c ∧ hexOf c ≤ 15 := by
  have h1 := Lib.indexByte_ge [48, 49, 50, 51, 52, 53, 54, 55, 56, 57, 97, 98, 99, 100, 101, 102] c
  have h2 := indexByte_lt c [48, 49, 50, 51, 52, 53, 54, 55, 56, 57, 97, 98, 99, 100, 101, 102]
  simp only [List.length_cons, List.length_nil] at h2
  exact ⟨h1, by unfold hexOf; omega⟩
/-- One byte of two digits' values. -/
def hexByte (h l : Int) : UInt8 := UInt8.ofNat (h.toNat * 16 + l.toNat)
/-- The digits' pairs: the bytes, and whether one was no digit. -/
def hexPairs : List UInt8 → List UInt8 × Bool
  | a :: b :: r => (hexByte (hexOf a) (hexOf b) :: (hexPairs r).1, decide (hexOf a < 0) || decide (hexOf b < 0) || (hexPairs r).2)
  | _ => ([], false)
def dataOf (x : ByteArray) : List UInt8 × Bool :=
  if x = bs [45] then ([], false) else if x.size % 2 = 1 then ([], true) else hexPairs x.data.toList
end Go.Proofs.YtjipffbnndbchaaGreatDoor
