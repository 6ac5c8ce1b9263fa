/- package bazaarref01: Ints. -/
import Derived.Test.YtmbjbckjfkijmaaRDskC
namespace Go.Proofs.Ytmbjbckjfkijmaa
open Go.RowKit Go.Shelf
attribute [local go_sem] Oper.semAt_some
attribute [local go_sem ↓] Go.wp_at_zero Go.wp_at_succ

theorem own_cellB {w : World} {base : Nat} {e : TypeId} {n : Nat} {so : Option Addr} {cap : Nat} {xs : List Value} (h : w.ownsRow base e 1 (.slice so n cap) n xs) (k : Nat) (v : Value) (hk : xs[k]? = some v) : ∃ b, so = some ⟨b, 0, none⟩ ∧ b < w.heap.size ∧ w.cell? ⟨b, k, none⟩ = some v := by
  have hlt := (List.getElem?_eq_some_iff.1 hk).1
  have hl := h.1
  rcases h.2 with ⟨_, hn⟩ | ⟨g, c, cur, hv, _, hg, _⟩
  · subst hn; omega
  · simp at hv
    obtain ⟨rfl, rfl⟩ := hv
    exact ⟨g, rfl, (Array.getElem?_eq_some_iff.1 hg).1, (h.cellAt k (by omega)).trans hk⟩

set_option maxRecDepth 100000 in
set_option maxHeartbeats 2000000 in
theorem ints_same (l : List Nat) (n : Nat) (so1 so2 : Option Addr) (c1 c2 : Nat) (B1 B2 : Nat) (w : World) (hn : n = l.length) (hl : n ≤ 1000000) (o1 : w.ownsRow B1 3 1 (.slice so1 n c1) n (nats l)) (o2 : w.ownsRow B2 3 1 (.slice so2 n c2) n (nats l)) :
    Calls Try.prog 27 #[.slice so1 n c1, .slice so2 n c2] w fun e w' => e = .returned (.bool true) ∧ Below w.heap.size w w' := by
  have HO := Lib.hid (And.intro o1 (And.intro o2 hn))
  clear o1 o2 hn
  have e0 : ¬ (n : Int) ≠ (n : Int) := by omega
  go_enter Try.func27, Try.ntmps27
  go_wp2
  go_loopw [5] (fun i wr => ∃ k : Nat, k ≤ n ∧ i = .int .i64 k ∧ Below w.heap.size w wr) (fun i _ => n - (intOf i).toNat)
  case atStart => exact ⟨0, by omega, rfl, bl_re _⟩
  case round =>
    obtain ⟨k, hk, rfl, hb⟩ := hrel
    by_cases hlt : k < n
    · obtain ⟨x, hx⟩ : ∃ x, l[k]? = some x := ⟨_, List.getElem?_eq_getElem (by rw [← HO.out.2.2]; exact hlt)⟩
      obtain ⟨b1, rfl, hb1, s1⟩ := own_cellB HO.out.1 k (.int .i64 (x : Int)) (by rw [nats_get, hx]; rfl)
      obtain ⟨b2, rfl, hb2, s2⟩ := own_cellB HO.out.2.1 k (.int .i64 (x : Int)) (by rw [nats_get, hx]; rfl)
      have q1 : wr.cell? ⟨b1, k, none⟩ = some (.int .i64 (x : Int)) := (hb.cell hb1).trans s1
      have q2 : wr.cell? ⟨b2, k, none⟩ = some (.int .i64 (x : Int)) := (hb.cell hb2).trans s2
      have HB := Lib.hid hb
      have i1 : (0 : Int) ≤ (k : Int) := Int.natCast_nonneg _
      have i2 : (k : Int) < (n : Int) := by omega
      have i3 : ¬ (x : Int) ≠ (x : Int) := by omega
      clear s1 s2 hb1 hb2 hx hb
      go_wp2_with fail
      go_quiet (fail)
      go_wp2
      exact ⟨⟨k + 1, by omega, by go_num, bl_dN HB.out _⟩, by simp [intOf]; omega⟩
    · obtain rfl : k = n := by omega
      have HB := Lib.hid hb
      clear hb
      go_wp2
      go_ret
      exact ⟨rfl, HB.out⟩
end Go.Proofs.Ytmbjbckjfkijmaa
