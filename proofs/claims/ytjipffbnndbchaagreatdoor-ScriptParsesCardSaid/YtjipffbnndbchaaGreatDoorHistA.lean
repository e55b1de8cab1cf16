/- The walks of hist: Open, Told, of, fits, the spans. -/
import Derived.Test.YtjipffbnndbchaaGreatDoorProg
import Derived.Test.YtjipffbnndbchaaGreatDoorKd
import Derived.Test.YtjipffbnndbchaaGreatDoorLibW
import Derived.Deep.Light
namespace Go.Proofs.YtjipffbnndbchaaGreatDoor
open Go.RowKit
set_option maxRecDepth 100000

def hOpen (en cd : Int) : Bool := en == 0 || cd == 17
def hTold (op bg en cd : Int) : Int :=
  if hOpen en cd || decide (en < bg) then 0 else
  if !(op == 1) && !(op == 3) && !(op == 4) then 0 else
  if cd == 0 then (if op == 1 then 4 else if op == 4 then 5 else 2) else
  if cd == 7 then 3 else
  if cd == 8 then (if op == 1 then 2 else 0) else
  if cd == 9 then (if op == 1 then 0 else 2) else
  if cd == 6 then (if op == 1 then 0 else 1) else 0

set_option maxHeartbeats 400000 in
theorem open_calls (op ck : Int) (dt : Value) (bg en cd : Int) (gt : Value) (w : World) :
    Calls Tryz.prog 81 #[.agg #[.int .i64 op, .int .u32 ck, dt, .int .i64 bg, .int .i64 en, .int .i64 cd, gt]] w fun e w' => e = .returned (.bool (hOpen en cd)) ∧ Below w.heap.size w w' := by
  go_enter Tryz.func81, Tryz.ntmps81
  go_wp2
  all_goals (go_ret; exact ⟨by simp [hOpen, *], (Below.refl _ _).alloc (Nat.le_refl _) _⟩)

set_option maxHeartbeats 1000000 in
theorem told_calls (op ck : Int) (dt : Value) (bg en cd : Int) (gt : Value) (w : World) :
    Calls Tryz.prog 53 #[.agg #[.int .i64 op, .int .u32 ck, dt, .int .i64 bg, .int .i64 en, .int .i64 cd, gt]] w fun e w' => e = .returned (.int .i64 (hTold op bg en cd)) ∧ Below w.heap.size w w' := by
  go_enter Tryz.func53, Tryz.ntmps53
  go_wp2_with (go_at_call 81; with_reducible refine (open_calls _ _ _ _ _ _ _ _).mono ?_; rintro e w' ⟨rfl, hb⟩; obtain ⟨hc, hf, hs⟩ := bcell hb)
  all_goals go_light
  all_goals go_ret
  all_goals refine ⟨ret_int (b := hTold op bg en cd) ?_, ?_⟩
  all_goals first
    | (unfold hTold; grind)
    | (repeat (first | (with_reducible assumption) | exact Ext.rfl_ _ | refine Ext.alloc ?_ _ | refine Ext.trans ?_ (by assumption)))

/-- A call of a history, as its seven cells tell it. -/
structure HCall where
  op : Int
  ck : Int
  data : List UInt8
  bg : Int
  en : Int
  cd : Int
  got : List UInt8
abbrev hCallVal (x : HCall) (a : Option Addr) (c : Nat) (b : Option Addr) (d : Nat) : List Value :=
  [.int .i64 x.op, .int .u32 x.ck, .slice a x.data.length c, .int .i64 x.bg, .int .i64 x.en, .int .i64 x.cd, .slice b x.got.length d]
def kHCall : Kd HCall := Kd.iso (Kd.pair (Kd.int .i64) (Kd.pair (Kd.int .u32) (Kd.pair (Kd.slice Kd.u8) (Kd.pair (Kd.int .i64) (Kd.pair (Kd.int .i64) (Kd.pair (Kd.int .i64) (Kd.slice Kd.u8)))))))
  (fun x => (x.op, x.ck, x.data, x.bg, x.en, x.cd, x.got))
theorem kHCall_K {w A x cs} : kHCall.K w A x cs ↔ ∃ a c b d, cs = hCallVal x a c b d ∧ (InK .i64 x.op ∧ InK .u32 x.ck ∧ InK .i64 x.bg ∧ InK .i64 x.en ∧ InK .i64 x.cd) ∧ Row Kd.u8 w A a c x.data ∧ Row Kd.u8 w A b d x.got := by
  simp only [kHCall, Kd.iso_K, Kd.pair_K, Kd.int_K, Kd.slice_K, hCallVal]
  constructor
  · rintro ⟨_, _, rfl, ⟨rfl, h0⟩, _, _, rfl, ⟨rfl, h1⟩, _, _, rfl, ⟨a, c, rfl, h2⟩, _, _, rfl, ⟨rfl, h3⟩, _, _, rfl, ⟨rfl, h4⟩, _, _, rfl, ⟨rfl, h5⟩, ⟨b, d, rfl, h6⟩⟩
    exact ⟨a, c, b, d, rfl, ⟨h0, h1, h3, h4, h5⟩, h2, h6⟩
  · rintro ⟨a, c, b, d, rfl, ⟨h0, h1, h3, h4, h5⟩, h2, h6⟩
    exact ⟨_, _, rfl, ⟨rfl, h0⟩, _, _, rfl, ⟨rfl, h1⟩, _, _, rfl, ⟨a, c, rfl, h2⟩, _, _, rfl, ⟨rfl, h3⟩, _, _, rfl, ⟨rfl, h4⟩, _, _, rfl, ⟨rfl, h5⟩, ⟨b, d, rfl, h6⟩⟩

def hFits (c blob : HCall) : Bool :=
  if c.op == 1 then true else
  if c.cd == 9 then c.ck != blob.ck else
  if c.op == 3 then c.ck == blob.ck && c.got == blob.data else c.ck == blob.ck

set_option maxHeartbeats 1000000 in
theorem fits_calls (x y : HCall) (a : Option Addr) (c : Nat) (b : Option Addr) (d : Nat) (a' : Option Addr) (c' : Nat) (b' : Option Addr) (d' : Nat) (A B : Nat → Prop) (w : World)
    (hg : Row Kd.u8 w A b d x.got) (hd : Row Kd.u8 w B a' c' y.data) :
    Calls Tryz.prog 84 #[.agg (hCallVal x a c b d).toArray, .agg (hCallVal y a' c' b' d').toArray] w fun e w' => e = .returned (.bool (hFits x y)) ∧ Ext w w' := by
  have hg2 : ∀ o p, Row Kd.u8 ((w.alloc o).alloc p) A b d x.got := fun o p => (hg.below (Ext.alloc (Ext.rfl_ _) o)).below (Ext.alloc (Ext.rfl_ _) p)
  have hd2 : ∀ o p, Row Kd.u8 ((w.alloc o).alloc p) B a' c' y.data := fun o p => (hd.below (Ext.alloc (Ext.rfl_ _) o)).below (Ext.alloc (Ext.rfl_ _) p)
  have Hg := Lib.hid hg2
  have Hd := Lib.hid hd2
  clear hg2 hd2 hg hd
  obtain ⟨op, ck, data, bg, en, cd, got⟩ := x
  obtain ⟨op', ck', data', bg', en', cd', got'⟩ := y
  simp only [hCallVal]
  go_enter Tryz.func84, Tryz.ntmps84
  go_wp2_with (go_at_call 90; with_reducible refine (bytesEqual_calls (Hg.out _ _) (Hd.out _ _)).mono ?_; rintro e w' ⟨rfl, rfl⟩)
  all_goals go_light
  all_goals go_ret
  all_goals refine ⟨ret_bool (b := hFits _ _) ?_, ?_⟩
  all_goals first
    | (unfold hFits; grind)
    | (repeat (first | (with_reducible assumption) | exact Ext.rfl_ _ | refine Ext.alloc ?_ _ | refine Ext.trans ?_ (by assumption)))
end Go.Proofs.YtjipffbnndbchaaGreatDoor
