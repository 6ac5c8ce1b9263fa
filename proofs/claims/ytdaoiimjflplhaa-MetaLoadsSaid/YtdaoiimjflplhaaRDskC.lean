/- package bazaarref01: Read, Sync. -/
import Derived.Test.YtdaoiimjflplhaaRDskB
namespace Go.Proofs.Ytdaoiimjflplhaa
open Go.RowKit Go.Shelf
attribute [local go_sem] Oper.semAt_some
attribute [local go_sem ↓] Go.wp_at_zero Go.wp_at_succ

theorem over_last (i : Nat) (s : List UInt8) (U : List (Nat × List UInt8)) (k : Nat) (hk : k < U.length) (he : U[k].1 = i) (hl : ∀ j (h : j < U.length), k < j → U[j].1 ≠ i) : Dk.over i s U = U[k].2 := by
  have h0 : Dk.over i s U = Dk.over i (Dk.over i s (U.take (k + 1))) (U.drop (k + 1)) := by
    unfold Dk.over
    rw [← List.foldl_append, List.take_append_drop]
  rw [h0, over_snoc i s U k hk, if_pos he]
  refine over_other i _ _ fun p hp => ?_
  obtain ⟨j, hj, rfl⟩ := List.getElem_of_mem hp
  rw [List.getElem_drop]
  rw [List.length_drop] at hj
  exact hl (k + 1 + j) (by omega) (by omega)

/-- The cells of a row that is owned. -/
theorem own_cell {w : World} {e : TypeId} {n : Nat} {so : Option Addr} {cap : Nat} {xs : List Value} (h : w.ownsRow 0 e 1 (.slice so n cap) n xs) (k : Nat) (v : Value) (hk : xs[k]? = some v) : ∃ b, so = some ⟨b, 0, none⟩ ∧ w.cell? ⟨b, k, none⟩ = some v ∧ w.frozen? ⟨b, k, none⟩ = false := by
  have hlt := (List.getElem?_eq_some_iff.1 hk).1
  have hl := h.1
  rcases h.2 with ⟨_, hn⟩ | ⟨g, c, cur, hv, _⟩
  · subst hn; omega
  · simp at hv
    obtain ⟨rfl, rfl⟩ := hv
    exact ⟨g, rfl, (h.cellAt k (by omega)).trans hk, h.frozenAt k⟩

set_option maxRecDepth 100000 in
set_option maxHeartbeats 1000000 in
theorem rread_far (S : Nat → Prop) (g : Nat) (D : Dk) (at_ : Int) (w : World) (h : RHeld S w g D) (hno : at_ < 0 ∨ (D.S.length : Int) ≤ at_) :
    Calls Try.prog 39 #[.pointer (some ⟨g, 0, none⟩), .int .i64 at_] w fun e w' => e = .returned (.tuple #[.string (mk []), .int .i64 10]) ∧ Below w.heap.size w w' := by
  obtain ⟨_, v1, v2, v3, h⟩ := h
  obtain ⟨so, cap, rfl⟩ := own_slice h.o1
  have q0 : w.cell? ⟨g, 0, none⟩ = some (.slice so D.S.length cap) := h.blk.cell 0
  clear h
  by_cases h0 : at_ < 0
  · have h1 : decide (at_ < 0) = true := decide_eq_true h0
    go_enter Try.func39, Try.ntmps39
    go_wp2
    go_ret2
    exact ⟨rfl, bl_re _⟩
  · have h1 : decide (at_ < 0) = false := decide_eq_false h0
    have h2 : (D.S.length : Int) ≤ at_ := hno.resolve_left h0
    have h3 : decide (at_ ≥ (D.S.length : Int)) = true := decide_eq_true h2
    go_enter Try.func39, Try.ntmps39
    go_wp2
    go_ret2
    exact ⟨rfl, bl_re _⟩

set_option maxRecDepth 100000 in
set_option maxHeartbeats 2000000 in
theorem rread_ok (S : Nat → Prop) (g : Nat) (D : Dk) (i : Nat) (w : World) (h : RHeld S w g D) (hi : i < D.S.length) :
    Calls Try.prog 39 #[.pointer (some ⟨g, 0, none⟩), .int .i64 i] w fun e w' => e = .returned (.tuple #[.string (mk (D.rd i)), .int .i64 0]) ∧ Below w.heap.size w w' := by
  obtain ⟨hok, v1, v2, v3, h⟩ := h
  have hmost := hok.most
  have hfew := hok.few
  have o2 := h.o2
  have o3 := h.o3
  rw [List.length_map] at o2 o3
  obtain ⟨so1, c1, rfl⟩ := own_slice h.o1
  obtain ⟨so2, c2, rfl⟩ := own_slice o2
  obtain ⟨so3, c3, rfl⟩ := own_slice o3
  have q0 : w.cell? ⟨g, 0, none⟩ = some (.slice so1 D.S.length c1) := h.blk.cell 0
  have q1 : w.cell? ⟨g, 1, none⟩ = some (.slice so2 D.U.length c2) := h.blk.cell 1
  have q2 : w.cell? ⟨g, 2, none⟩ = some (.slice so3 D.U.length c3) := h.blk.cell 2
  obtain ⟨b1, rfl, r1, _⟩ := own_cell h.o1 i _ (by rw [strs_get, List.getElem?_eq_getElem hi]; rfl)
  have HO := Lib.hid (And.intro o2 o3)
  have h1 : decide ((i : Int) < 0) = false := decide_eq_false (by omega)
  have h3 : decide ((i : Int) ≥ (D.S.length : Int)) = false := decide_eq_false (by omega)
  have h4 : ¬ (D.S.length : Int) ≤ (i : Int) := by omega
  have hS : D.S[i]?.getD [] = D.S[i] := by rw [List.getElem?_eq_getElem hi]; rfl
  have hrd : ∀ (k : Nat) (hk : k < D.U.length), D.U[k].1 = i → (∀ j (h : j < D.U.length), k < j → D.U[j].1 ≠ i) → D.rd i = D.U[k].2 := fun k hk he hl => by unfold Dk.rd; exact over_last i _ D.U k hk he hl
  have hrd0 : (∀ j (h : j < D.U.length), 0 ≤ j → D.U[j].1 ≠ i) → D.rd i = D.S[i] := fun hl => by
    unfold Dk.rd
    rw [hS]
    refine over_other i _ _ fun p hp => ?_
    obtain ⟨j, hj, rfl⟩ := List.getElem_of_mem hp
    exact hl j hj (Nat.zero_le _)
  have HR := Lib.hid (And.intro hrd hrd0)
  clear hS hrd hrd0 h o2 o3 hok
  have r1 : w.cell? ⟨b1, i, none⟩ = some (tx D.S[i]) := r1
  generalize D.S[i] = s at *
  generalize hnS : D.S.length = nS at *
  obtain ⟨nU, hnU⟩ : ∃ nU, D.U.length = nU := ⟨_, rfl⟩
  rw [hnU] at q1 q2 hfew
  go_enter Try.func39, Try.ntmps39
  go_wp2
  go_loop [6] (fun x => ∃ k : Nat, k ≤ nU ∧ x = .int .i64 ((k : Int) - 1) ∧ (∀ j (h : j < D.U.length), k ≤ j → D.U[j].1 ≠ i)) (fun x => (intOf x + 1).toNat)
  case atStart => exact ⟨nU, Nat.le_refl _, rfl, fun j hj hk => by omega⟩
  case round =>
    obtain ⟨k, hk, rfl, hall⟩ := hrel
    by_cases hlt : 0 < k
    · obtain ⟨k, rfl⟩ : ∃ m, k = m + 1 := ⟨k - 1, by omega⟩
      have hkU : k < D.U.length := by omega
      obtain ⟨p, hp⟩ : ∃ p, D.U[k] = p := ⟨_, rfl⟩
      have hm : D.U[k]? = some p := by rw [List.getElem?_eq_getElem hkU, hp]
      obtain ⟨b2, rfl, s1, _⟩ := own_cell HO.out.1 k (.int .i64 (p.1 : Int)) (by rw [nats_get, List.getElem?_map, hm]; rfl)
      obtain ⟨b3, rfl, s2, _⟩ := own_cell HO.out.2 k (tx p.2) (by rw [strs_get, List.getElem?_map, hm]; rfl)
      have HK := Lib.hid (And.intro hall (And.intro hp hkU))
      clear hall hp hm
      have i1 : (0 : Int) ≤ (k : Int) := Int.natCast_nonneg _
      have i2 : (k : Int) < (nU : Int) := by omega
      by_cases hpi : p.1 = i
      · have e1 : ((p.1 : Int) == (i : Int)) = true := by simp; omega
        have e2 : (p.1 : Int) = (i : Int) := by omega
        go_wp2
        go_ret2
        obtain ⟨hall, hp, hkU⟩ := HK.out
        rw [HR.out.1 k hkU (by rw [hp]; exact hpi) (fun j hj hkj => hall j hj (by omega)), hp]
        exact ⟨rfl, bl_re _⟩
      · have e1 : ((p.1 : Int) == (i : Int)) = false := by simp; omega
        have e2 : ¬ (p.1 : Int) = (i : Int) := by omega
        go_wp2
        obtain ⟨hall, hp, hkU⟩ := HK.out
        refine ⟨⟨k, by omega, by go_num, fun j hj hkj => ?_⟩, by simp [intOf]⟩
        by_cases e : j = k
        · subst e; rw [hp]; exact hpi
        · exact hall j hj (by omega)
    · obtain rfl : k = 0 := by omega
      have HK := Lib.hid hall
      clear hall
      have i1 : ¬ (0 : Int) ≤ ((0 : Nat) : Int) - 1 := by omega
      go_wp2
      go_ret2
      rw [HR.out.2 HK.out]
      exact ⟨rfl, bl_re _⟩

theorem chk_far (D : Dk) (at_ : Int) (hc : D.chk at_ = 10) : at_ < 0 ∨ (D.S.length : Int) ≤ at_ := by
  unfold Dk.chk at hc
  by_cases x : 0 ≤ at_ ∧ at_ < D.S.length
  · rw [if_pos x] at hc; cases hc
  · omega
theorem rread_any (S : Nat → Prop) (g : Nat) (D : Dk) (at_ : Int) (w : World) (h : RHeld S w g D) :
    Calls Try.prog 39 #[.pointer (some ⟨g, 0, none⟩), .int .i64 at_] w fun e w' => e = .returned (.tuple #[.string (mk (D.read at_).1), .int .i64 (D.read at_).2]) ∧ Below w.heap.size w w' := by
  rcases D.chk_or at_ with hc | ⟨hc, h0, h1⟩
  · have e : D.read at_ = ([], 10) := by unfold Dk.read; rw [if_pos (by rw [hc]; decide)]
    rw [e]
    exact rread_far S g D at_ w h (chk_far D at_ hc)
  · have e : D.read at_ = (D.rd at_.toNat, 0) := by unfold Dk.read; rw [if_neg (by rw [hc]; decide)]
    rw [e]
    obtain ⟨i, rfl⟩ : ∃ i : Nat, at_ = i := ⟨at_.toNat, by omega⟩
    exact rread_ok S g D i w h (by omega)
end Go.Proofs.Ytdaoiimjflplhaa
