/- The library's functions, their contracts put in terms of rows that are read. -/
import Derived.Test.YtjipffbnndbchaaGreatDoorShelf
import Derived.Test.YtjipffbnndbchaaGreatDoorKd
namespace Go.Proofs.YtjipffbnndbchaaGreatDoor
open Go.RowKit
set_option maxRecDepth 100000

theorem Row.u8_cells {w : World} {A : Nat → Prop} {a : Option Addr} {cap : Nat} {xs : List UInt8} (h : Row Kd.u8 w A a cap xs) :
    ∀ ad, a = some ad → ∀ i (hi : i < xs.length), ad.spot = none ∧ w.cell? ⟨ad.block, ad.off + i, none⟩ = some (.int .u8 (xs[i].toNat : Int)) := by
  intro ad e i hi
  have hne : xs ≠ [] := by intro e; subst e; simp at hi
  obtain ⟨h1, _, h3, _⟩ := h.2.2.2 ad e hne
  obtain ⟨b, off, s⟩ := ad
  simp at h1; subst h1; subst e
  obtain ⟨c, hc, hj⟩ := h.at_ i hi
  simp at hc; subst hc
  refine ⟨rfl, ?_⟩
  have := hj 0 _ rfl
  simpa [Kd.u8, Kd.scalar] using this

theorem Row.bytesIn {w : World} {A : Nat → Prop} {a : Option Addr} {cap : Nat} {xs : List UInt8} (h : Row Kd.u8 w A a cap xs) :
    Lib.BytesIn w a xs.length (xs.map fun b => (b.toNat : Int)) := by
  intro h0
  obtain ⟨b, off, rfl, _, _⟩ := h.some_of h0
  refine ⟨b, off, rfl, fun i hi => ?_⟩
  have := (h.u8_cells _ rfl i hi).2
  rw [this]
  simp [List.getD, hi]
theorem bytesOf_map (xs : List UInt8) : Lib.bytesOf (xs.map fun b => (b.toNat : Int)) = xs := by
  simp [Lib.bytesOf, Function.comp_def]
/-- bytes.Equal. -/
theorem bytesEqual_calls {w : World} {A B : Nat → Prop} {a b : Option Addr} {c d : Nat} {xs ys : List UInt8} (h : Row Kd.u8 w A a c xs) (k : Row Kd.u8 w B b d ys) :
    Calls Tryz.prog 90 #[.slice a xs.length c, .slice b ys.length d] w fun e w' => e = .returned (.bool (xs == ys)) ∧ w = w' := by
  refine (Tryz.bytes_Equal_all a b xs.length c ys.length d _ _ w (by simp) (by simp) h.bytesIn k.bytesIn).mono ?_
  rintro e w' ⟨rfl, rfl⟩
  exact ⟨by rw [bytesOf_map, bytesOf_map], rfl⟩
end Go.Proofs.YtjipffbnndbchaaGreatDoor
