/- What it is for a heap to hold the reference's disk, and two disks beside each other. No program's step in sight. -/
import Derived.Test.YtdaoiimjflplhaaDiskH
import Derived.Deep.AppendLies
import Derived.Laws.OwnMore
namespace Go.Proofs.Ytdaoiimjflplhaa
open Go.RowKit

/-- A text as a value. -/
abbrev tx (s : List UInt8) : Value := .string (mk s)
def strs (l : List (List UInt8)) : List Value := l.map fun s => .string (mk s)
def nats (l : List Nat) : List Value := l.map fun n : Nat => .int .i64 (n : Int)
@[simp] theorem strs_length (l : List (List UInt8)) : (strs l).length = l.length := by simp [strs]
@[simp] theorem nats_length (l : List Nat) : (nats l).length = l.length := by simp [nats]
theorem strs_get (l : List (List UInt8)) (i : Nat) : (strs l)[i]? = l[i]?.map fun s => .string (mk s) := by simp [strs]
theorem nats_get (l : List Nat) (i : Nat) : (nats l)[i]? = l[i]?.map fun n : Nat => .int .i64 (n : Int) := by simp [nats]
theorem strs_set (l : List (List UInt8)) (i : Nat) (s : List UInt8) : (strs l).set i (.string (mk s)) = strs (l.set i s) := by simp [strs, List.map_set]
theorem strs_snoc (l : List (List UInt8)) (s : List UInt8) : strs l ++ [.string (mk s)] = strs (l ++ [s]) := by simp [strs]
theorem nats_snoc (l : List Nat) (n : Nat) : nats l ++ [.int .i64 (n : Int)] = nats (l ++ [n]) := by simp [nats]

/-- At block g lies the reference's disk: its three slices, each in a block of its own, and the count. -/
structure RAt (S : Nat → Prop) (w : World) (g : Nat) (v1 v2 v3 : Value) (Ss : List (List UInt8)) (Ws : List Nat) (Bs : List (List UInt8)) (N : Nat) : Prop where
  blk : Blk w g 69 #[v1, v2, v3, .int .i64 (N : Int)]
  o1 : w.ownsRow 0 9 1 v1 Ss.length (strs Ss)
  o2 : w.ownsRow 0 3 1 v2 Ws.length (nats Ws)
  o3 : w.ownsRow 0 9 1 v3 Bs.length (strs Bs)
  n1 : v1.ownBlock ≠ some g
  n2 : v2.ownBlock ≠ some g
  n3 : v3.ownBlock ≠ some g
  a12 : ∀ k, v1.ownBlock = some k → v2.ownBlock ≠ some k
  a13 : ∀ k, v1.ownBlock = some k → v3.ownBlock ≠ some k
  a23 : ∀ k, v2.ownBlock = some k → v3.ownBlock ≠ some k
  sg : S g
  s1 : ∀ k, v1.ownBlock = some k → S k
  s2 : ∀ k, v2.ownBlock = some k → S k
  s3 : ∀ k, v3.ownBlock = some k → S k

section
variable {S S' : Nat → Prop} {w w' : World} {g : Nat} {v1 v2 v3 : Value} {Ss : List (List UInt8)} {Ws : List Nat} {Bs : List (List UInt8)} {N : Nat}
theorem RAt.keep (h : RAt S w g v1 v2 v3 Ss Ws Bs N) (hc : ∀ k, k < w.heap.size → S k → w'.heap[k]? = w.heap[k]?) : RAt S w' g v1 v2 v3 Ss Ws Bs N :=
  ⟨(hc g h.blk.lt h.sg).trans h.blk, ownsRow_block h.o1 fun k hk => hc k (h.o1.lt k hk).2 (h.s1 k hk), ownsRow_block h.o2 fun k hk => hc k (h.o2.lt k hk).2 (h.s2 k hk), ownsRow_block h.o3 fun k hk => hc k (h.o3.lt k hk).2 (h.s3 k hk),
   h.n1, h.n2, h.n3, h.a12, h.a13, h.a23, h.sg, h.s1, h.s2, h.s3⟩
theorem RAt.sub (h : RAt S w g v1 v2 v3 Ss Ws Bs N) (hs : ∀ k, k < w.heap.size → S k → S' k) : RAt S' w g v1 v2 v3 Ss Ws Bs N :=
  ⟨h.blk, h.o1, h.o2, h.o3, h.n1, h.n2, h.n3, h.a12, h.a13, h.a23, hs g h.blk.lt h.sg, fun k hk => hs k (h.o1.lt k hk).2 (h.s1 k hk), fun k hk => hs k (h.o2.lt k hk).2 (h.s2 k hk), fun k hk => hs k (h.o3.lt k hk).2 (h.s3 k hk)⟩
theorem RAt.below (h : RAt S w g v1 v2 v3 Ss Ws Bs N) (hb : Below w.heap.size w w') : RAt S w' g v1 v2 v3 Ss Ws Bs N := h.keep fun k hk _ => hb.block k hk
theorem RAt.alloc (h : RAt S w g v1 v2 v3 Ss Ws Bs N) (o : Obj) : RAt S (w.alloc o) g v1 v2 v3 Ss Ws Bs N := h.below ((Below.refl _ _).alloc (Nat.le_refl _) _)
theorem RAt.drew (h : RAt S w g v1 v2 v3 Ss Ws Bs N) : RAt S w.drew g v1 v2 v3 Ss Ws Bs N := h.below (Below.refl _ _).drew
theorem RAt.lt (h : RAt S w g v1 v2 v3 Ss Ws Bs N) : g < w.heap.size := h.blk.lt

/-- One cell of the struct is written. -/
theorem RAt.count (h : RAt S w g v1 v2 v3 Ss Ws Bs N) (n : Nat) : RAt S (w.setCell ⟨g, 3, none⟩ (.int .i64 (n : Int))) g v1 v2 v3 Ss Ws Bs n := by
  refine ⟨?_, ownsRow_block h.o1 fun k hk => heap_setCell_other _ _ _ _ (fun e => h.n1 (by rw [hk, e])), ownsRow_block h.o2 fun k hk => heap_setCell_other _ _ _ _ (fun e => h.n2 (by rw [hk, e])), ownsRow_block h.o3 fun k hk => heap_setCell_other _ _ _ _ (fun e => h.n3 (by rw [hk, e])),
    h.n1, h.n2, h.n3, h.a12, h.a13, h.a23, h.sg, h.s1, h.s2, h.s3⟩
  have := h.blk.set_ 3 (.int .i64 (n : Int))
  simpa using this
theorem RAt.clear2 (h : RAt S w g v1 v2 v3 Ss Ws Bs N) : RAt S (w.setCell ⟨g, 1, none⟩ (.slice none 0 0)) g v1 (.slice none 0 0) v3 Ss [] Bs N := by
  refine ⟨?_, ownsRow_block h.o1 fun k hk => heap_setCell_other _ _ _ _ (fun e => h.n1 (by rw [hk, e])), World.ownsRow_nil _ _ _ _, ownsRow_block h.o3 fun k hk => heap_setCell_other _ _ _ _ (fun e => h.n3 (by rw [hk, e])),
    h.n1, by simp [Value.ownBlock], h.n3, by simp [Value.ownBlock], h.a13, by simp [Value.ownBlock], h.sg, h.s1, by simp [Value.ownBlock], h.s3⟩
  have := h.blk.set_ 1 (.slice none 0 0)
  simpa using this
theorem RAt.clear3 (h : RAt S w g v1 v2 v3 Ss Ws Bs N) : RAt S (w.setCell ⟨g, 2, none⟩ (.slice none 0 0)) g v1 v2 (.slice none 0 0) Ss Ws [] N := by
  refine ⟨?_, ownsRow_block h.o1 fun k hk => heap_setCell_other _ _ _ _ (fun e => h.n1 (by rw [hk, e])), ownsRow_block h.o2 fun k hk => heap_setCell_other _ _ _ _ (fun e => h.n2 (by rw [hk, e])), World.ownsRow_nil _ _ _ _,
    h.n1, h.n2, by simp [Value.ownBlock], h.a12, by simp [Value.ownBlock], by simp [Value.ownBlock], h.sg, h.s1, h.s2, by simp [Value.ownBlock]⟩
  have := h.blk.set_ 2 (.slice none 0 0)
  simpa using this

/-- A sector's bytes are written. -/
theorem RAt.sector {a n c : Nat} (h : RAt S w g (.slice (some ⟨a, 0, none⟩) n c) v2 v3 Ss Ws Bs N) (hn : n = Ss.length) (i : Nat) (s : List UInt8) : RAt S (w.setCell ⟨a, i, none⟩ (tx s)) g (.slice (some ⟨a, 0, none⟩) n c) v2 v3 (Ss.set i s) Ws Bs N := by
  subst hn
  have st := (h.o1.stored i (tx s)).1
  rw [strs_set] at st
  refine ⟨h.blk.far (fun e => h.n1 (by simp [Value.ownBlock]; exact e.symm)) _, by simpa using st, ownsRow_block h.o2 fun k hk => heap_setCell_other _ _ _ _ (fun e => h.a12 a rfl (by rw [hk, e])), ownsRow_block h.o3 fun k hk => heap_setCell_other _ _ _ _ (fun e => h.a13 a rfl (by rw [hk, e])),
    h.n1, h.n2, h.n3, h.a12, h.a13, h.a23, h.sg, h.s1, h.s2, h.s3⟩

/-- Something is appended to one of the slices, and the slice laid where it stood. -/
theorem RAt.push1 {a c H n : Nat} (h : RAt S w g v1 v2 v3 Ss Ws Bs N) (s : List UInt8) (hn : n = Ss.length + 1) (hown : w'.ownsRow 0 9 1 (.slice (some ⟨a, 0, none⟩) n c) n (strs Ss ++ [tx s])) (hg : w.grownBy w' v1.ownBlock)
    (hat : v1.ownBlock = some a ∨ a = H) (hH : w.heap.size ≤ H) (hS : ∀ k, w.heap.size ≤ k → S k) : RAt S (w'.setCell ⟨g, 0, none⟩ (.slice (some ⟨a, 0, none⟩) n c)) g (.slice (some ⟨a, 0, none⟩) n c) v2 v3 (Ss ++ [s]) Ws Bs N := by
  have hga : a ≠ g := by rcases hat with e | e; exact fun x => h.n1 (by rw [e, x]); have := h.lt; omega
  have h2 : ∀ k, v2.ownBlock = some k → a ≠ k := fun k hk x => by
    rcases hat with e | e
    · exact h.a12 a e (by rw [hk, x])
    · have := (h.o2.lt k hk).2; omega
  have h3 : ∀ k, v3.ownBlock = some k → a ≠ k := fun k hk x => by
    rcases hat with e | e
    · exact h.a13 a e (by rw [hk, x])
    · have := (h.o3.lt k hk).2; omega
  have hb := h.blk.grown hg (fun e => h.n1 e.symm)
  have k2 : w'.ownsRow 0 3 1 v2 Ws.length (nats Ws) := ownsRow_block h.o2 fun k hk => hg.block k (h.o2.lt k hk).2 fun e => h.a12 k e.symm hk
  have k3 : w'.ownsRow 0 9 1 v3 Bs.length (strs Bs) := ownsRow_block h.o3 fun k hk => hg.block k (h.o3.lt k hk).2 fun e => h.a13 k e.symm hk
  refine ⟨by have := hb.set_ 0 (.slice (some ⟨a, 0, none⟩) n c); simpa using this, ?_, ownsRow_block k2 fun k hk => heap_setCell_other _ _ _ _ (fun e => h.n2 (by rw [hk, e])), ownsRow_block k3 fun k hk => heap_setCell_other _ _ _ _ (fun e => h.n3 (by rw [hk, e])),
    by simpa [Value.ownBlock] using hga, h.n2, h.n3, ?_, ?_, h.a23, h.sg, ?_, h.s2, h.s3⟩
  · rw [strs_snoc] at hown
    have := ownsRow_block hown (w' := w'.setCell ⟨g, 0, none⟩ (.slice (some ⟨a, 0, none⟩) n c)) fun k hk => heap_setCell_other _ _ _ _ (fun e => hga (by simp [Value.ownBlock] at hk; rw [hk, e]))
    simpa [← hn] using this
  · intro k hk e; simp [Value.ownBlock] at hk; exact h2 k e hk
  · intro k hk e; simp [Value.ownBlock] at hk; exact h3 k e hk
  · intro k hk; simp [Value.ownBlock] at hk; subst hk; rcases hat with e | e; exact h.s1 a e; exact hS a (by omega)
theorem RAt.push2 {a c H n : Nat} (h : RAt S w g v1 v2 v3 Ss Ws Bs N) (s : Nat) (hn : n = Ws.length + 1) (hown : w'.ownsRow 0 3 1 (.slice (some ⟨a, 0, none⟩) n c) n (nats Ws ++ [.int .i64 (s : Int)])) (hg : w.grownBy w' v2.ownBlock)
    (hat : v2.ownBlock = some a ∨ a = H) (hH : w.heap.size ≤ H) (hS : ∀ k, w.heap.size ≤ k → S k) : RAt S (w'.setCell ⟨g, 1, none⟩ (.slice (some ⟨a, 0, none⟩) n c)) g v1 (.slice (some ⟨a, 0, none⟩) n c) v3 Ss (Ws ++ [s]) Bs N := by
  have hga : a ≠ g := by rcases hat with e | e; exact fun x => h.n2 (by rw [e, x]); have := h.lt; omega
  have h2 : ∀ k, v1.ownBlock = some k → a ≠ k := fun k hk x => by
    rcases hat with e | e
    · exact h.a12 k hk (by rw [e, x])
    · have := (h.o1.lt k hk).2; omega
  have h3 : ∀ k, v3.ownBlock = some k → a ≠ k := fun k hk x => by
    rcases hat with e | e
    · exact h.a23 a e (by rw [hk, x])
    · have := (h.o3.lt k hk).2; omega
  have hb := h.blk.grown hg (fun e => h.n2 e.symm)
  have k2 : w'.ownsRow 0 9 1 v1 Ss.length (strs Ss) := ownsRow_block h.o1 fun k hk => hg.block k (h.o1.lt k hk).2 fun e => h.a12 k hk e.symm
  have k3 : w'.ownsRow 0 9 1 v3 Bs.length (strs Bs) := ownsRow_block h.o3 fun k hk => hg.block k (h.o3.lt k hk).2 fun e => h.a23 k e.symm hk
  refine ⟨by have := hb.set_ 1 (.slice (some ⟨a, 0, none⟩) n c); simpa using this, ownsRow_block k2 fun k hk => heap_setCell_other _ _ _ _ (fun e => h.n1 (by rw [hk, e])), ?_, ownsRow_block k3 fun k hk => heap_setCell_other _ _ _ _ (fun e => h.n3 (by rw [hk, e])),
    h.n1, by simpa [Value.ownBlock] using hga, h.n3, ?_, h.a13, ?_, h.sg, h.s1, ?_, h.s3⟩
  · rw [nats_snoc] at hown
    have := ownsRow_block hown (w' := w'.setCell ⟨g, 1, none⟩ (.slice (some ⟨a, 0, none⟩) n c)) fun k hk => heap_setCell_other _ _ _ _ (fun e => hga (by simp [Value.ownBlock] at hk; rw [hk, e]))
    simpa [← hn] using this
  · intro k hk e; simp [Value.ownBlock] at e; exact h2 k hk e
  · intro k hk e; simp [Value.ownBlock] at hk; exact h3 k e hk
  · intro k hk; simp [Value.ownBlock] at hk; subst hk; rcases hat with e | e; exact h.s2 a e; exact hS a (by omega)
theorem RAt.push3 {a c H n : Nat} (h : RAt S w g v1 v2 v3 Ss Ws Bs N) (s : List UInt8) (hn : n = Bs.length + 1) (hown : w'.ownsRow 0 9 1 (.slice (some ⟨a, 0, none⟩) n c) n (strs Bs ++ [tx s])) (hg : w.grownBy w' v3.ownBlock)
    (hat : v3.ownBlock = some a ∨ a = H) (hH : w.heap.size ≤ H) (hS : ∀ k, w.heap.size ≤ k → S k) : RAt S (w'.setCell ⟨g, 2, none⟩ (.slice (some ⟨a, 0, none⟩) n c)) g v1 v2 (.slice (some ⟨a, 0, none⟩) n c) Ss Ws (Bs ++ [s]) N := by
  have hga : a ≠ g := by rcases hat with e | e; exact fun x => h.n3 (by rw [e, x]); have := h.lt; omega
  have h2 : ∀ k, v1.ownBlock = some k → a ≠ k := fun k hk x => by
    rcases hat with e | e
    · exact h.a13 k hk (by rw [e, x])
    · have := (h.o1.lt k hk).2; omega
  have h3 : ∀ k, v2.ownBlock = some k → a ≠ k := fun k hk x => by
    rcases hat with e | e
    · exact h.a23 k hk (by rw [e, x])
    · have := (h.o2.lt k hk).2; omega
  have hb := h.blk.grown hg (fun e => h.n3 e.symm)
  have k2 : w'.ownsRow 0 9 1 v1 Ss.length (strs Ss) := ownsRow_block h.o1 fun k hk => hg.block k (h.o1.lt k hk).2 fun e => h.a13 k hk e.symm
  have k3 : w'.ownsRow 0 3 1 v2 Ws.length (nats Ws) := ownsRow_block h.o2 fun k hk => hg.block k (h.o2.lt k hk).2 fun e => h.a23 k hk e.symm
  refine ⟨by have := hb.set_ 2 (.slice (some ⟨a, 0, none⟩) n c); simpa using this, ownsRow_block k2 fun k hk => heap_setCell_other _ _ _ _ (fun e => h.n1 (by rw [hk, e])), ownsRow_block k3 fun k hk => heap_setCell_other _ _ _ _ (fun e => h.n2 (by rw [hk, e])), ?_,
    h.n1, h.n2, by simpa [Value.ownBlock] using hga, h.a12, ?_, ?_, h.sg, h.s1, h.s2, ?_⟩
  · rw [strs_snoc] at hown
    have := ownsRow_block hown (w' := w'.setCell ⟨g, 2, none⟩ (.slice (some ⟨a, 0, none⟩) n c)) fun k hk => heap_setCell_other _ _ _ _ (fun e => hga (by simp [Value.ownBlock] at hk; rw [hk, e]))
    simpa [← hn] using this
  · intro k hk e; simp [Value.ownBlock] at e; exact h2 k hk e
  · intro k hk e; simp [Value.ownBlock] at e; exact h3 k hk e
  · intro k hk; simp [Value.ownBlock] at hk; subst hk; rcases hat with e | e; exact h.s3 a e; exact hS a (by omega)
/-- What a push writes. -/
theorem chg_push {v : Value} {i : Nat} (hg : w.grownBy w' v.ownBlock) (hs : ∀ k, v.ownBlock = some k → S k) (sg : S g) (u : Value) : Chg S w (w'.setCell ⟨g, i, none⟩ u) :=
  (Chg.ofGrown hg hs).trans (Chg.ofSetCell _ _ _ sg)
end

/-- The reference's disk at g is the plain disk D. -/
def RHeld (S : Nat → Prop) (w : World) (g : Nat) (D : Dk) : Prop := DkOk D ∧ ∃ v1 v2 v3, RAt S w g v1 v2 v3 D.S (D.U.map (·.1)) (D.U.map (·.2)) D.N
section
variable {S S' : Nat → Prop} {w w' : World} {g : Nat} {D : Dk}
theorem RHeld.keep (h : RHeld S w g D) (hc : ∀ k, k < w.heap.size → S k → w'.heap[k]? = w.heap[k]?) : RHeld S w' g D := by
  obtain ⟨h0, a, b, c, h⟩ := h; exact ⟨h0, a, b, c, h.keep hc⟩
theorem RHeld.sub (h : RHeld S w g D) (hs : ∀ k, k < w.heap.size → S k → S' k) : RHeld S' w g D := by
  obtain ⟨h0, a, b, c, h⟩ := h; exact ⟨h0, a, b, c, h.sub hs⟩
theorem RHeld.below (h : RHeld S w g D) (hb : Below w.heap.size w w') : RHeld S w' g D := h.keep fun k hk _ => hb.block k hk
theorem RHeld.lt (h : RHeld S w g D) : g < w.heap.size := by obtain ⟨_, _, _, _, h⟩ := h; exact h.lt
theorem RHeld.ok (h : RHeld S w g D) : DkOk D := h.1
end

/-- The program's disk at g and the reference's at h, apart from each other and from the blocks F. -/
def Two (F : Nat → Prop) (w : World) (g : Nat) (D : Dk) (h : Nat) (E : Dk) : Prop := (∀ k, F k → k < w.heap.size) ∧ ∃ S1 S2 : Nat → Prop, (∀ k, S1 k → S2 k → False) ∧ (∀ k, S1 k → ¬ F k ∧ k < w.heap.size) ∧ (∀ k, S2 k → ¬ F k ∧ k < w.heap.size) ∧ Held S1 w g D ∧ RHeld S2 w h E
section
variable {F F' : Nat → Prop} {w w' : World} {g h : Nat} {D E : Dk}
/-- Nothing that lay has turned; what is new is no disk's. -/
theorem Two.grow (t : Two F w g D h E) (hb : Below w.heap.size w w') : Two (fun k => F k ∨ (w.heap.size ≤ k ∧ k < w'.heap.size)) w' g D h E := by
  obtain ⟨hF, S1, S2, h1, h2, h3, h4, h5⟩ := t
  have := hb.size
  refine ⟨fun k hk => ?_, S1, S2, h1, fun k hk => ?_, fun k hk => ?_, h4.below hb, h5.below hb⟩
  · rcases hk with hk | hk
    · have := hF k hk; omega
    · exact hk.2
  · have := h2 k hk
    exact ⟨fun x => x.elim this.1 (fun y => by omega), by omega⟩
  · have := h3 k hk
    exact ⟨fun x => x.elim this.1 (fun y => by omega), by omega⟩
theorem Two.less (t : Two F' w g D h E) (hF : ∀ k, F k → F' k) : Two F w g D h E := by
  obtain ⟨h0, S1, S2, h1, h2, h3, h4, h5⟩ := t
  exact ⟨fun k hk => h0 k (hF k hk), S1, S2, h1, fun k hk => ⟨fun x => (h2 k hk).1 (hF k x), (h2 k hk).2⟩, fun k hk => ⟨fun x => (h3 k hk).1 (hF k x), (h3 k hk).2⟩, h4, h5⟩
theorem Two.below (t : Two F w g D h E) (hb : Below w.heap.size w w') : Two F w' g D h E := (t.grow hb).less fun _ hk => .inl hk
theorem Two.ok1 (t : Two F w g D h E) : DkOk D := by obtain ⟨hB, S1, S2, h1, h2, h3, h4, h5⟩ := t; exact h4.ok
theorem Two.ok2 (t : Two F w g D h E) : DkOk E := by obtain ⟨hB, S1, S2, h1, h2, h3, h4, h5⟩ := t; exact h5.ok
theorem Two.lt1 (t : Two F w g D h E) : g < w.heap.size := by obtain ⟨hB, S1, S2, h1, h2, h3, h4, h5⟩ := t; exact h4.lt
theorem Two.lt2 (t : Two F w g D h E) : h < w.heap.size := by obtain ⟨hB, S1, S2, h1, h2, h3, h4, h5⟩ := t; exact h5.lt
theorem Two.left (t : Two F w g D h E) : ∃ S : Nat → Prop, (∀ k, w.heap.size ≤ k → S k) ∧ (∀ k, S k → ¬ F k) ∧ Held S w g D ∧ ∀ w' D', Held S w' g D' → Chg S w w' → Two F w' g D' h E ∧ Chg (fun k => ¬ F k) w w' := by
  obtain ⟨hF, S1, S2, h1, h2, h3, h4, h5⟩ := t
  have hS : ∀ k, (S1 k ∨ w.heap.size ≤ k) → ¬ F k := fun k hk x => by
    rcases hk with hk | hk
    · exact (h2 k hk).1 x
    · have := hF k x; omega
  refine ⟨fun k => S1 k ∨ w.heap.size ≤ k, fun k hk => .inr hk, hS, h4.sub fun k _ hk => .inl hk, fun w' D' hh hc => ?_⟩
  have hs := hc.size
  refine ⟨⟨fun k hk => by have := hF k hk; omega, fun k => (S1 k ∨ w.heap.size ≤ k) ∧ k < w'.heap.size, S2, ?_, fun k hk => ⟨hS k hk.1, hk.2⟩, fun k hk => by have := h3 k hk; exact ⟨this.1, by omega⟩, hh.sub fun k hk hs => ⟨hs, hk⟩, h5.keep fun k hk hs2 => hc.block k hk ?_⟩, hc.mono fun k _ hk => hS k hk⟩
  · rintro k ⟨hk | hk, _⟩ hk2
    · exact h1 k hk hk2
    · have := h3 k hk2; omega
  · rintro (x | x)
    · exact h1 k x hs2
    · have := h3 k hs2; omega
theorem Two.right (t : Two F w g D h E) : ∃ S : Nat → Prop, (∀ k, w.heap.size ≤ k → S k) ∧ (∀ k, S k → ¬ F k) ∧ RHeld S w h E ∧ ∀ w' E', RHeld S w' h E' → Chg S w w' → Two F w' g D h E' ∧ Chg (fun k => ¬ F k) w w' := by
  obtain ⟨hF, S1, S2, h1, h2, h3, h4, h5⟩ := t
  have hS : ∀ k, (S2 k ∨ w.heap.size ≤ k) → ¬ F k := fun k hk x => by
    rcases hk with hk | hk
    · exact (h3 k hk).1 x
    · have := hF k x; omega
  refine ⟨fun k => S2 k ∨ w.heap.size ≤ k, fun k hk => .inr hk, hS, h5.sub fun k _ hk => .inl hk, fun w' E' hh hc => ?_⟩
  have hs := hc.size
  refine ⟨⟨fun k hk => by have := hF k hk; omega, S1, fun k => (S2 k ∨ w.heap.size ≤ k) ∧ k < w'.heap.size, ?_, fun k hk => by have := h2 k hk; exact ⟨this.1, by omega⟩, fun k hk => ⟨hS k hk.1, hk.2⟩, h4.keep (fun k hk hs1 => hc.block k hk ?_) hs, hh.sub fun k hk hs => ⟨hs, hk⟩⟩, hc.mono fun k _ hk => hS k hk⟩
  · rintro k hk2 ⟨hk | hk, _⟩
    · exact h1 k hk2 hk
    · have := h2 k hk2; omega
  · rintro (x | x)
    · exact h1 k hs1 x
    · have := h2 k hs1; omega
/-- Two new disks. -/
theorem Two.make {w1 w2 : World} (hb1 : Below w.heap.size w w1) (hb2 : Below w1.heap.size w1 w2) (hn1 : Held (fun k => w.heap.size ≤ k) w1 g D) (hn2 : RHeld (fun k => w1.heap.size ≤ k) w2 h E) : Two (fun k => k < w.heap.size) w2 g D h E := by
  have s1 := hb1.size
  have s2 := hb2.size
  refine ⟨fun k hk => by omega, fun k => w.heap.size ≤ k ∧ k < w1.heap.size, fun k => w1.heap.size ≤ k ∧ k < w2.heap.size, fun k a b => by omega, fun k hk => by omega, fun k hk => by omega, ?_, ?_⟩
  · exact (hn1.sub fun k hk hs => ⟨hs, hk⟩).below hb2
  · exact hn2.sub fun k hk hs => ⟨hs, hk⟩
end
end Go.Proofs.Ytdaoiimjflplhaa
