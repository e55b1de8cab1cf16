/- The walks of script: the words of an act. -/
import Derived.Test.YtjipffbnndbchaaGreatDoorWdA
import Derived.Test.YtjipffbnndbchaaGreatDoorAct
namespace Go.Proofs.YtjipffbnndbchaaGreatDoor
open Go.RowKit
set_option maxRecDepth 100000

abbrev acVal (k c o v i a b key ck : Int) (g : Bool) (dv : Value) (nm : Int) (fv : Value) : Value :=
  .agg #[.int .i64 k, .int .i64 c, .int .i64 o, .int .i64 v, .int .i64 i, .int .i64 a, .int .i64 b, .int .u64 key, .int .u32 ck, .bool g, dv, .int .i64 nm, fv]

theorem itn_calls (n : Int) (hn : InK .i64 n) {B : Nat} (w : World) (hG : Glob B w) : Calls Tryz.prog 23 #[.int .i64 n] w fun e w' => e = .returned (.string (bs (Lib.itoa n))) ∧ Ext w w' := by
  have hI := itoa_calls n hn w hG
  have HI := Lib.hid hI
  clear hI
  go_enter Tryz.func23, Tryz.ntmps23
  go_wp2_with (go_at_call 47; go_must (with_reducible refine HI.out.mono ?_); rintro e w2 ⟨rfl, he⟩; have HE := Lib.hid he; clear he)
  go_ret
  exact ⟨rfl, HE.out⟩
/-- Where words stands: its act's block, its list, in a world that went out from w. -/
structure WSt (B : Nat) (w W : World) (cs : Array Value) (l : Value) (ws : List ByteArray) : Prop where
  own : Own Kd.str 9 W (w.heap.size + 1) (fun _ => False) l ws
  blk : W.heap[w.heap.size]? = some (.cells cs 56 (0, 0))
  ext : Ext w W
  glob : Glob B W
  base : B ≤ w.heap.size
theorem WSt.more {B : Nat} {w W W' : World} {cs : Array Value} {l : Value} {ws : List ByteArray} (h : WSt B w W cs l ws) (e : Ext W W') : WSt B w W' cs l ws :=
  ⟨h.own.below e, (e.block _ (Array.getElem?_eq_some_iff.1 h.blk).1).trans h.blk, h.ext.trans e, h.glob.ext e, h.base⟩
/-- The first word laid. -/
theorem WSt.first {B : Nat} {w : World} (hG : Glob B w) (cs names : Array Value) (x : ByteArray) :
    WSt B w (((w.alloc (.cells cs 56)).alloc (.cells names 9)).alloc (.cells #[.string x] 9)).drew cs (.slice (some ⟨w.heap.size + 1 + 1, 0, none⟩) 1 1) [x] where
  own := by
    refine ⟨[.string x], ⟨rfl, .inr ⟨w.heap.size + 1 + 1, 1, #[.string x], rfl, by omega, ?_, by simp, by simp [maxLen], rfl, rfl⟩⟩, ?_⟩
    · have := heap_alloc_new ((w.alloc (.cells cs 56)).alloc (.cells names 9)) (.cells #[.string x] 9)
      rw [show ((w.alloc (.cells cs 56)).alloc (.cells names 9)).heap.size = w.heap.size + 1 + 1 from by simp] at this
      exact this
    · exact ⟨[.string x], [], rfl, ⟨rfl, trivial⟩, rfl⟩
  blk := (Below.heap_alloc _ _ w.heap.size (by simp; omega)).trans (alloc2_fst _ _ _)
  ext := (Ext.alloc (Ext.alloc (Ext.alloc (Ext.rfl_ w) _) _) _).drew
  glob := hG.ext (Ext.alloc (Ext.alloc (Ext.alloc (Ext.rfl_ w) _) _) _).drew
  base := hG.size
theorem infoStr : (Tryz.prog.info? 9).map (fun i => (i.zero, i.size, i.bytes)) = some (some (.string ByteArray.empty), 1, 16) := by kernel_rfl
theorem elems_str {w : World} {A : Nat → Prop} : ∀ zs : List ByteArray, Elems Kd.str w A zs (zs.map Value.string)
  | [] => rfl
  | z :: zs => ⟨[.string z], zs.map Value.string, rfl, ⟨rfl, trivial⟩, elems_str zs⟩
theorem wst_run {B : Nat} {w W : World} {cs : Array Value} {l : Value} {ws : List ByteArray} (h : WSt B w W cs l ws) (zs : List ByteArray) (arr : Array Value) (T ty : TypeId) (harr : arr.toList = zs.map Value.string) (hlen : ws.length + zs.length ≤ 3000000) :
    ∃ v' w', (Builtin.append_ #[77, 77] ty #[l, .slice (some ⟨W.heap.size, 0, none⟩) zs.length zs.length]).run Tryz.prog (W.alloc (.cells arr T)) = .ok v' w' ∧ WSt B w w' cs v' (ws ++ zs) ∧ ∀ k, k < W.heap.size → some k ≠ l.ownBlock → w'.heap[k]? = W.heap[k]? := by
  obtain ⟨i0, hi, hz, hsz, hbt⟩ := info_parts infoStr
  have hE : Ext W (W.alloc (.cells arr T)) := Ext.alloc (Ext.rfl_ _) _
  have hlt := (Array.getElem?_eq_some_iff.1 h.blk).1
  obtain ⟨v', w', h1, h2, h3, h4⟩ := run_push (P := Tryz.prog) (W.alloc (.cells arr T)) Kd.str 9 77 ty i0 (.string ByteArray.empty) 16 (w.heap.size + 1) (fun _ => False) l ws ⟨W.heap.size, 0, none⟩ zs.length zs (zs.map Value.string) Tryz.underlying77 hi hz hsz hbt rfl (by decide) (h.own.below hE) (elems_str zs) (by
      intro j u hu
      have hh : (W.alloc (.cells arr T)).heap[W.heap.size]? = some (.cells arr T (0, 0)) := heap_alloc_new W _
      exact World.news_of_block hh j u (by rw [harr]; exact hu)) (by unfold maxLen; omega) (by omega) (by simp; omega)
  refine ⟨v', w', h1, ⟨h2, ?_, ?_, ?_, h.base⟩, fun k hk hne => (h3.block k (by simp; omega) hne).trans (hE.block k hk)⟩
  · refine (h3.block _ (by simp; omega) (fun e => ?_)).trans ((hE.block _ hlt).trans h.blk)
    have := (h.own.block_lt e.symm).2
    omega
  · exact ((Below.refl w.heap.size w).trans (h.ext.trans hE)).grown h3 (by simp; omega) (fun k hk => by have := (h.own.block_lt hk).2; omega)
  · have hb : Below B W w' := ((Below.refl B W).alloc h.glob.size _).grown h3 (by have := h.glob.size; simp; omega) (fun k hk => by have := (h.own.block_lt hk).2; have := h.base; omega)
    exact h.glob.below hb
theorem wst_push {B : Nat} {w W : World} {cs : Array Value} {l : Value} {ws : List ByteArray} (h : WSt B w W cs l ws) (zs : List ByteArray) {arr : Array Value} {T : TypeId} {ops : Array Oper} {rest : List Oper} {o : Oper} {a : Act} {Q : Exit → Act → World → Prop} {m N : Nat}
    (hgd : o.guard = none) (s x : Operand) (ho : o.op = .call { callee := .builtin .append, args := #[s, x], argTypes := #[77, 77] })
    (hs : a.eval s = l) (hx : a.eval x = .slice (some ⟨N, 0, none⟩) m m) (hm : m = zs.length) (hN : N = W.heap.size) (harr : arr.toList = zs.map Value.string) (hlen : ws.length + zs.length ≤ 3000000)
    (k : ∀ v' w', WSt B w w' cs v' (ws ++ zs) → wpList Tryz.prog ops Q rest (a.put o.dst v') w') : wpList Tryz.prog ops Q (o :: rest) a (W.alloc (.cells arr T)) := by
  subst hm hN
  refine wpList_plain hgd fun _ hK => ?_
  obtain ⟨v', w', hr, h2, h3⟩ := wst_run h zs arr T o.type harr hlen
  unfold Oper.wp execOp
  simp only [ho, resolve, invoke, builtin, Sem.run_bind, Sem.run_pure, Result.andThen_ok, List.map_toArray, List.map_cons, List.map_nil, hs, hx, hr]
  exact hK _ _ (k v' w' h2)
theorem wst_step {B : Nat} {w W : World} {cs : Array Value} {l : Value} {ws : List ByteArray} (h : WSt B w W cs l ws) (zs : List ByteArray) {arr : Array Value} {T : TypeId} {ops : Array Oper} {o : Oper} {a : Act} {K : Act → World → Prop} {Q : Exit → Act → World → Prop} {E : Prop} {m N : Nat}
    (hgd : o.guard = none) (s x : Operand) (ho : o.op = .call { callee := .builtin .append, args := #[s, x], argTypes := #[77, 77] })
    (hs : a.eval s = l) (hx : a.eval x = .slice (some ⟨N, 0, none⟩) m m) (hm : m = zs.length) (hN : N = W.heap.size) (harr : arr.toList = zs.map Value.string) (hlen : ws.length + zs.length ≤ 3000000)
    (k : ∀ v' w', WSt B w w' cs v' (ws ++ zs) → (∀ k, k < W.heap.size → some k ≠ l.ownBlock → w'.heap[k]? = W.heap[k]?) → K (a.put o.dst v') w') : if Region.wanted o (yielded ops a.tmps) = true then Oper.wp Tryz.prog o a (W.alloc (.cells arr T)) K Q else E := by
  subst hm hN
  have hw : Region.wanted o (yielded ops a.tmps) = true := by simp [Region.wanted, hgd]
  rw [if_pos hw]
  obtain ⟨v', w', hr, h2, h3⟩ := wst_run h zs arr T o.type harr hlen
  unfold Oper.wp execOp
  simp only [ho, resolve, invoke, builtin, Sem.run_bind, Sem.run_pure, Result.andThen_ok, List.map_toArray, List.map_cons, List.map_nil, hs, hx, hr]
  exact k v' w' h2 h3
abbrev nameArr : Array Value := #[.string (bs [98, 101, 103, 105, 110]), .string (bs [115, 101, 110, 100]), .string (bs [99, 111, 109, 101]), .string (bs [108, 111, 115, 101]), .string (bs [116, 119, 105, 99, 101]), .string (bs [99, 117, 116]), .string (bs [106, 111, 105, 110]), .string (bs [119, 111, 114, 107]), .string (bs [97, 114, 109]), .string (bs [99, 114, 97, 115, 104]), .string (bs [115, 116, 97, 114, 116]), .string (bs [113, 117, 105, 116])]
theorem names_calls2 (w : World) : Calls Tryz.prog 36 #[] w fun e w' => e = .returned (.slice (some ⟨w.heap.size, 0, none⟩) 12 12) ∧ w' = w.alloc (.cells nameArr 9) := names_calls w

theorem bs_append (a b : List UInt8) : bs a ++ bs b = bs (a ++ b) := by
  apply toList_inj
  rw [ByteArray.toList_eq, ByteArray.toList_eq]
  simp [bs]
/-- A pick's word. -/
def pickWord (p : Pk) : ByteArray := bs (Lib.itoa p.keep ++ 58 :: Lib.itoa p.turn)
theorem pick_cells {W : World} {n : Nat} {x0 x1 : Value} {T : TypeId} (h : W.heap[n]? = some (.cells #[x0, x1] T (0, 0))) : W.cell? ⟨n, 0, none⟩ = some x0 ∧ W.cell? ⟨n, 1, none⟩ = some x1 := by
  simp [World.cell?, h]
def WordsR (w : World) (ws : List ByteArray) (e : Ending) (w' : World) : Prop :=
  ∃ v, e = .returned v ∧ Own Kd.str 9 w' w.heap.size (fun _ => False) v ws ∧ Ext w w'
end Go.Proofs.YtjipffbnndbchaaGreatDoor
