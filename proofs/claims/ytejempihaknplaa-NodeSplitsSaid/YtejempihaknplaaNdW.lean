/- What is known of a world is known of one that has only grown or drawn: found by the world's form. -/
import Derived.Test.YtejempihaknplaaWMore
namespace Go.Proofs.YtejempihaknplaaW.PrintMore
open Go.RowKit Go.Proofs.YtejempihaknplaaW.PrintWords
class Mv (w w' : World) : Prop where
  out : Below w.heap.size w w'
instance Mv.re (w : World) : Mv w w := ⟨Below.refl _ _⟩
instance Mv.al {w v : World} [h : Mv w v] (o : Obj) : Mv w (v.alloc o) := ⟨h.out.alloc h.out.size o⟩
instance Mv.dr {w v : World} [h : Mv w v] : Mv w v.drew := ⟨h.out.drew⟩
instance Mv.dn {w v : World} [h : Mv w v] (n : Nat) : Mv w (v.drewN n) := ⟨pw_below_drewN h.out n⟩
theorem R_ {α : Type} {d : Kd α} {e : Nat} {w w' : World} {base : Nat} {ok : Nat → Prop} {v : Value} {xs : List α} [h : Mv w w'] (H : d.R e w base ok v xs) : d.R e w' base ok v xs := Kd.R_below H h.out
theorem B_ {w w' : World} {g : Nat} {o : Obj} [h : Mv w w'] (H : w.heap[g]? = some o) : w'.heap[g]? = some o := (h.out.block g (Array.getElem?_eq_some_iff.1 H).1).trans H
theorem L_ {a w w' : World} [h : Mv w w'] (H : Below a.heap.size a w) : Below a.heap.size a w' := H.trans (h.out.mono H.size)
end Go.Proofs.YtejempihaknplaaW.PrintMore
