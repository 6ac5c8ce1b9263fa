/- Which blocks a disk may lie in. No program in sight. -/
import Derived.Test.YtdaoiimjflplhaaDiskH
namespace Go.Proofs.Ytdaoiimjflplhaa

/-- All blocks from B on, but some. -/
def From (B : Nat) (L : List Nat) (k : Nat) : Prop := B ≤ k ∧ k ∉ L
theorem From.sub {B : Nat} {L : List Nat} {w : World} {g : Nat} {D : Dk} (h : Held (From B L) w g D) (l : Nat) (hl : w.heap.size ≤ l) : Held (From B (l :: L)) w g D :=
  h.sub fun k hk ⟨h1, h2⟩ => ⟨h1, by simp; exact ⟨by omega, h2⟩⟩

end Go.Proofs.Ytdaoiimjflplhaa
