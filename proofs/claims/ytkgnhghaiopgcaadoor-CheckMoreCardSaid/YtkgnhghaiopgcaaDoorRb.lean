/- A kind whose cells are told once and for all, by a relation of no world; no condition. -/
import Derived.Test.YtkgnhghaiopgcaaDoorRa
set_option linter.unusedVariables false
set_option linter.unusedSimpArgs false
namespace Go.Proofs.YtkgnhghaiopgcaaDoor.Ra
open Go.RowKit Go.Proofs.YtkgnhghaiopgcaaDoorW.PrintWords Go.Proofs.YtkgnhghaiopgcaaDoorW.PrintLast

def fx {α : Type} (d : Kd α) (D : α → List Value → Prop) (hl : ∀ x cs, D x cs → cs.length = d.sz) (h1 : ∀ x cs, D x cs → ∀ u ∈ cs, u.oneCell' = true) : Kd α where
  sz := d.sz
  E := []
  K := fun _ x cs => D x cs
  M := fun _ _ _ x cs => D x cs
  K_len := fun h => hl _ _ h
  K_one := fun h => h1 _ _ h
  K_below := fun _ h => h
  K_of_M := fun h => h
  M_mono := fun _ h => h
  M_bound := fun h => h
  M_move := fun _ h => h
  M_lower := fun _ h => h
theorem C_of_fx {α : Type} {d : Kd α} {D : α → List Value → Prop} {hl h1} {w : World} {A : Option Addr} {n : Nat} {xs : List α} (h : (fx d D hl h1).C w A n xs) (hk : ∀ x cs, D x cs → d.K w x cs) : d.C w A n xs := by
  refine ⟨h.1, h.2.1, fun hp => ?_⟩
  obtain ⟨ad, e, hc⟩ := h.2.2 hp
  refine ⟨ad, e, fun j p hj => ?_⟩
  obtain ⟨c, hl, hd, hcell⟩ := hc j p hj
  exact ⟨c, hl, hk _ _ hd, hcell⟩
theorem fx_of_at {α : Type} {d : Kd α} {D : α → List Value → Prop} {hl h1} {w0 W : World} {e base : Nat} {ok : Nat → Prop} {v : Value} {xs : List α} (h : (at_ d w0).R e W base ok v xs) (hd : ∀ x cs, d.K w0 x cs → D x cs) : (fx d D hl h1).R e W base ok v xs := by
  obtain ⟨h0, inner, ho, hr⟩ := h
  exact ⟨h0, inner, ho, hr.imp_ (fun _ _ hp => hd _ _ hp)⟩
theorem R_slice0 {α : Type} {d : Kd α} {w : World} {e base : Nat} {ok : Nat → Prop} {v : Value} {xs : List α} (h : d.R e w base ok v xs) (hn : 0 < xs.length) : ∃ g c, v = .slice (some ⟨g, 0, none⟩) xs.length c := by
  obtain ⟨_, inner, hown, _⟩ := h
  rcases hown.2 with h2 | ⟨g, cap, cur, hv, _⟩
  · exact absurd h2.2 (by omega)
  · exact ⟨g, cap, hv⟩
end Go.Proofs.YtkgnhghaiopgcaaDoor.Ra
