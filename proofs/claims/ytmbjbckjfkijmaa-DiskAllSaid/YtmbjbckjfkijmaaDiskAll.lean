/- DiskAll: a crash that keeps all is a sync; one that keeps nothing undoes what is unsynced. Printed by wip/diskall.py. -/
import Derived.Test.YtmbjbckjfkijmaaDiskAllM
import Derived.Test.YtmbjbckjfkijmaaPack
import Derived.Test.YtmbjbckjfkijmaaArgs
namespace Go.Proofs.Ytmbjbckjfkijmaa
open Go.RowKit Go.Shelf
set_option linter.unusedVariables false
attribute [local go_sem ↓] Go.wp_at_zero Go.wp_at_succ

/-- The disk of the first k acts' writes. -/
def refD (xs : List ActV) (k : Nat) : Dk := (xs.take k).foldl (fun D x => D.w x.c (text70 x.s).data.toList) (Dk.new 8)
theorem refD_snoc (xs : List ActV) (k : Nat) (x : ActV) (h : xs[k]? = some x) : refD xs (k + 1) = (refD xs k).w x.c (text70 x.s).data.toList := by
  obtain ⟨hk, rfl⟩ := List.getElem?_eq_some_iff.1 h
  unfold refD
  rw [List.take_succ_eq_append_getElem hk, List.foldl_append]
  rfl
theorem new_at (w : World) : Calls Try.prog 16 #[.int .i64 ((8 : Nat) : Int)] w fun e w' => ∃ g, e = .returned (.tuple #[.pointer (some ⟨g, 0, none⟩), .int .i64 0]) ∧ Below w.heap.size w w' ∧ ∀ S : Nat → Prop, (∀ k, w.heap.size ≤ k → S k) → Held S w' g (Dk.new 8) := by
  refine (new_yes (fun k => w.heap.size ≤ k) 8 w (by omega) (by omega) fun k hk => hk).mono ?_
  rintro e w' ⟨g, rfl, _, hh, hb⟩
  exact ⟨g, rfl, hb, fun S hS => hh.sub fun k _ hk => hS k hk⟩

set_option maxRecDepth 100000 in
set_option maxHeartbeats 8000000 in
theorem diskAll_walk (so1 : Option Addr) (n1 cap1 : Nat) (xs : List ActV) (n : Int) (hn : -9223372036854775808 ≤ n ∧ n ≤ 9223372036854775807) (hx1 : xs.length = n1) (hx2 : n1 ≤ maxLen) (w : World) (hxs : ActsAt w so1 xs) :
    Calls Try.prog 6 #[.slice so1 n1 cap1, .int .i64 n] w fun e w' => e = .returned (.bool true) ∧ Below w.heap.size w w' := by
  have hn1 : (n1 : Int) ≤ 9223372036854775807 := by unfold maxLen at hx2; omega
  have H0 := Lib.hid (shown_any w)
  have HA := Lib.hid (And.intro hx1 hxs)
  clear hxs hx1 hx2
  go_enter Try.func6, Try.ntmps6
  go_wp2_with fail
  refine H0.out.mono ?_
  rintro e w1 ⟨rfl, hb1⟩
  have G1 := Lib.hid hb1
  have P1 := Lib.hid (Pack.nil w.heap.size w1 hb1.size)
  clear hb1
  go_wp2_with fail
  refine (new_at w1).mono ?_
  rintro e w2 ⟨ga, rfl, hb2, hn2⟩
  have G2 := Lib.hid (G1.out.trans (hb2.mono P1.out.1))
  have P2 := Lib.hid (P1.out.new hb2 ga (Dk.new 8) hn2)
  clear hb2 hn2
  go_wp2_with fail
  refine (new_at w2).mono ?_
  rintro e w3 ⟨gb, rfl, hb3, hn3⟩
  have G3 := Lib.hid (G2.out.trans (hb3.mono P2.out.1))
  have P3 := Lib.hid (P2.out.new hb3 gb (Dk.new 8) hn3)
  clear hb3 hn3
  go_wp2_with fail
  refine (new_at w3).mono ?_
  rintro e w4 ⟨gc, rfl, hb4, hn4⟩
  have G4 := Lib.hid (G3.out.trans (hb4.mono P3.out.1))
  have P4 := Lib.hid (P3.out.new hb4 gc (Dk.new 8) hn4)
  clear hb4 hn4
  go_wp2_with fail
  go_loopw [12] (fun i wr => ∃ (k : Nat) (A C : Dk), k ≤ n1 ∧ k ≤ 80 ∧ i = .int .i64 k ∧ Pack w.heap.size wr [] [(ga, A), (gb, A), (gc, C)] ∧ Below w.heap.size w wr ∧ AllRel n k A C (refD xs k)) (fun i _ => 80 - (intOf i).toNat)
  case atStart => exact ⟨0, Dk.new 8, Dk.new 8, by omega, by omega, rfl, P4.out, G4.out, AllRel.start n⟩
  case round =>
    obtain ⟨k, A, C, hk1, hk2, rfl, hrest⟩ := hrel
    have HR := Lib.hid hrest
    clear hrest
    by_cases hlt : k < n1 ∧ k < 80
    · obtain ⟨hl1, hl2⟩ := hlt
      obtain ⟨x, hx⟩ : ∃ x, xs[k]? = some x := ⟨_, List.getElem?_eq_getElem (by rw [HA.out.1]; exact hl1)⟩
      obtain ⟨hok, b, o, rfl, hb, c0, c1, c2, c3⟩ := HA.out.2 k x hx
      have q1 : wr.cell? ⟨b, o + k * 4 + 1, none⟩ = some (.int .i64 x.c) := (HR.out.2.1.cell hb).trans c1
      have q2 : wr.cell? ⟨b, o + k * 4 + 2, none⟩ = some (.string x.s) := (HR.out.2.1.cell hb).trans c2
      have HO := Lib.hid (And.intro hok hb)
      have HX0 := Lib.hid hx
      clear hok c0 c1 c2 c3 hb hx
      have i0 : (0 : Int) ≤ (k : Int) := Int.natCast_nonneg _
      have i1 : (k : Int) < (n1 : Int) := by omega
      have HP := Lib.hid HR.out.1
      have HX : Hid (A.U.length ≤ 80 ∧ C.U.length ≤ 80 ∧ A.N ≤ 160 ∧ C.N ≤ 160) := Lib.hid (by have h := HR.out.2.2; have := h.ua; have := h.uc; have := h.na; have := h.nc; omega)
      by_cases hkn : (k : Int) = n
      · subst hkn
        obtain ⟨S10, hS, hup, hB, _, hback⟩ := HP.out.at_ 0 ga A rfl
        have HS10 := Lib.hid (And.intro hS (And.intro hup (And.intro hB hback)))
        clear hS hup hB hback
        have nS10 : ¬ S10 b := fun x => by have := HS10.out.2.2.1 b x; have := HO.out.2; omega
        have hbw10 : b < (wr).heap.size := Nat.lt_of_lt_of_le HO.out.2 HP.out.1
        go_wp2_with fail
        refine (sync_any S10 ga A _ HS10.out.1 (by have := HX.out; omega)).mono ?_
        rintro e w10 ⟨rfl, hh6, hc6⟩
        have P10 := Lib.hid (HS10.out.2.2.2 w10 _ hh6 hc6)
        have q1' : w10.cell? ⟨b, o + k * 4 + 1, none⟩ = some (.int .i64 x.c) := (World.cell?_of_block (a := ⟨b, o + k * 4 + 1, none⟩) (hc6.block b hbw10 nS10)).trans q1
        have q2' : w10.cell? ⟨b, o + k * 4 + 2, none⟩ = some (.string x.s) := (World.cell?_of_block (a := ⟨b, o + k * 4 + 2, none⟩) (hc6.block b hbw10 nS10)).trans q2
        have B10 := Lib.hid (hc6.below HS10.out.2.2.1 HP.out.1)
        clear hh6 hc6 q1 q2 nS10
        have q1 := q1'
        have q2 := q2'
        clear q1' q2'
        obtain ⟨S11, hS, hup, hB, _, hback⟩ := P10.out.at_ 1 gb A rfl
        have HS11 := Lib.hid (And.intro hS (And.intro hup (And.intro hB hback)))
        clear hS hup hB hback
        have nS11 : ¬ S11 b := fun x => by have := HS11.out.2.2.1 b x; have := HO.out.2; omega
        have hbw11 : b < (w10).heap.size := Nat.lt_of_lt_of_le HO.out.2 P10.out.1
        go_wp2_with fail
        refine (sync_any S11 gb A _ HS11.out.1 (by have := HX.out; omega)).mono ?_
        rintro e w11 ⟨rfl, hh6, hc6⟩
        have P11 := Lib.hid (HS11.out.2.2.2 w11 _ hh6 hc6)
        have q1' : w11.cell? ⟨b, o + k * 4 + 1, none⟩ = some (.int .i64 x.c) := (World.cell?_of_block (a := ⟨b, o + k * 4 + 1, none⟩) (hc6.block b hbw11 nS11)).trans q1
        have q2' : w11.cell? ⟨b, o + k * 4 + 2, none⟩ = some (.string x.s) := (World.cell?_of_block (a := ⟨b, o + k * 4 + 2, none⟩) (hc6.block b hbw11 nS11)).trans q2
        have B11 := Lib.hid (hc6.below HS11.out.2.2.1 P10.out.1)
        clear hh6 hc6 q1 q2 nS11
        have q1 := q1'
        have q2 := q2'
        clear q1' q2'
        obtain ⟨S12, hS, hup, hB, _, hback⟩ := P11.out.at_ 2 gc C rfl
        have HS12 := Lib.hid (And.intro hS (And.intro hup (And.intro hB hback)))
        clear hS hup hB hback
        have nS12 : ¬ S12 b := fun x => by have := HS12.out.2.2.1 b x; have := HO.out.2; omega
        have hbw12 : b < (w11).heap.size := Nat.lt_of_lt_of_le HO.out.2 P11.out.1
        go_wp2_with fail
        refine (sync_any S12 gc C _ HS12.out.1 (by have := HX.out; omega)).mono ?_
        rintro e w12 ⟨rfl, hh6, hc6⟩
        have P12 := Lib.hid (HS12.out.2.2.2 w12 _ hh6 hc6)
        have q1' : w12.cell? ⟨b, o + k * 4 + 1, none⟩ = some (.int .i64 x.c) := (World.cell?_of_block (a := ⟨b, o + k * 4 + 1, none⟩) (hc6.block b hbw12 nS12)).trans q1
        have q2' : w12.cell? ⟨b, o + k * 4 + 2, none⟩ = some (.string x.s) := (World.cell?_of_block (a := ⟨b, o + k * 4 + 2, none⟩) (hc6.block b hbw12 nS12)).trans q2
        have B12 := Lib.hid (hc6.below HS12.out.2.2.1 P11.out.1)
        clear hh6 hc6 q1 q2 nS12
        have q1 := q1'
        have q2 := q2'
        clear q1' q2'
        go_wp2_with fail
        obtain ⟨S13, hS, hup, hB, _, hback⟩ := P12.out.at_ 0 ga A.synced rfl
        have HS13 := Lib.hid (And.intro hS (And.intro hup (And.intro hB hback)))
        clear hS hup hB hback
        have nS13 : ¬ S13 b := fun x => by have := HS13.out.2.2.1 b x; have := HO.out.2; omega
        have hbw13 : b < (w12).heap.size := Nat.lt_of_lt_of_le HO.out.2 P12.out.1
        go_region_held3 (fun w' => w'.cell? ⟨b, o + k * 4 + 1, none⟩ = some (.int .i64 x.c) ∧ w'.cell? ⟨b, o + k * 4 + 2, none⟩ = some (.string x.s))
          (first
            | go_keep
            | exact ⟨(World.cell?_of_block (a := ⟨b, o + k * 4 + 1, none⟩) (hc6.block b (Nat.lt_of_lt_of_le hbw13 hb5.out.size) nS13)).trans ((hb5.out.cell (p := ⟨b, o + k * 4 + 1, none⟩) hbw13).trans q1), (World.cell?_of_block (a := ⟨b, o + k * 4 + 2, none⟩) (hc6.block b (Nat.lt_of_lt_of_le hbw13 hb5.out.size) nS13)).trans ((hb5.out.cell (p := ⟨b, o + k * 4 + 2, none⟩) hbw13).trans q2)⟩
            | exact ⟨(hb5.cell (p := ⟨b, o + k * 4 + 1, none⟩) hbw13).trans q1, (hb5.cell (p := ⟨b, o + k * 4 + 2, none⟩) hbw13).trans q2⟩)
          (first
            | (go_at_call 18; refine (text_any x.s _ HO.out.1.2.2.1).mono ?_; rintro e w5 ⟨rfl, hb5⟩)
            | (go_at_call 17; refine (write_any S13 ga A.synced x.c (text70 x.s) _ (HS13.out.1.drew.below hb5) HO.out.1.2.1 (by have := text70_size x.s; unfold maxLen; omega) (by show (0 : Nat) < 1000000; omega) (by have := HX.out; show A.N + 1 < 1000000; omega) (fun i hi => HS13.out.2.1 i (by have := hb5.size; have : (w12).drew.heap.size = (w12).heap.size := rfl; omega))).mono ?_; have hb5' := Lib.hid hb5; clear hb5; rename Hid _ => hb5; rintro e w13 ⟨rfl, hh6, hc6⟩))
        have c13 : Chg S13 (w12) w13 := (Chg.ofNew ((bl_dr (bl_re (w12))).trans hb5.out)).trans hc6
        have P13 := Lib.hid (HS13.out.2.2.2 w13 _ hh6 c13)
        have q1' : w13.cell? ⟨b, o + k * 4 + 1, none⟩ = some (.int .i64 x.c) := (World.cell?_of_block (a := ⟨b, o + k * 4 + 1, none⟩) (c13.block b hbw13 nS13)).trans q1
        have q2' : w13.cell? ⟨b, o + k * 4 + 2, none⟩ = some (.string x.s) := (World.cell?_of_block (a := ⟨b, o + k * 4 + 2, none⟩) (c13.block b hbw13 nS13)).trans q2
        have B13 := Lib.hid (c13.below HS13.out.2.2.1 P12.out.1)
        clear hh6 hc6 hb5 q1 q2 c13 nS13
        have q1 := q1'
        have q2 := q2'
        clear q1' q2'
        go_wp2_with fail
        obtain ⟨S14, hS, hup, hB, _, hback⟩ := P13.out.at_ 1 gb A.synced rfl
        have HS14 := Lib.hid (And.intro hS (And.intro hup (And.intro hB hback)))
        clear hS hup hB hback
        have nS14 : ¬ S14 b := fun x => by have := HS14.out.2.2.1 b x; have := HO.out.2; omega
        have hbw14 : b < (w13).heap.size := Nat.lt_of_lt_of_le HO.out.2 P13.out.1
        go_region_held3 (fun w' => w'.cell? ⟨b, o + k * 4 + 1, none⟩ = some (.int .i64 x.c) ∧ w'.cell? ⟨b, o + k * 4 + 2, none⟩ = some (.string x.s))
          (first
            | go_keep
            | exact ⟨(World.cell?_of_block (a := ⟨b, o + k * 4 + 1, none⟩) (hc6.block b (Nat.lt_of_lt_of_le hbw14 hb5.out.size) nS14)).trans ((hb5.out.cell (p := ⟨b, o + k * 4 + 1, none⟩) hbw14).trans q1), (World.cell?_of_block (a := ⟨b, o + k * 4 + 2, none⟩) (hc6.block b (Nat.lt_of_lt_of_le hbw14 hb5.out.size) nS14)).trans ((hb5.out.cell (p := ⟨b, o + k * 4 + 2, none⟩) hbw14).trans q2)⟩
            | exact ⟨(hb5.cell (p := ⟨b, o + k * 4 + 1, none⟩) hbw14).trans q1, (hb5.cell (p := ⟨b, o + k * 4 + 2, none⟩) hbw14).trans q2⟩)
          (first
            | (go_at_call 18; refine (text_any x.s _ HO.out.1.2.2.1).mono ?_; rintro e w5 ⟨rfl, hb5⟩)
            | (go_at_call 17; refine (write_any S14 gb A.synced x.c (text70 x.s) _ (HS14.out.1.drew.below hb5) HO.out.1.2.1 (by have := text70_size x.s; unfold maxLen; omega) (by show (0 : Nat) < 1000000; omega) (by have := HX.out; show A.N + 1 < 1000000; omega) (fun i hi => HS14.out.2.1 i (by have := hb5.size; have : (w13).drew.heap.size = (w13).heap.size := rfl; omega))).mono ?_; have hb5' := Lib.hid hb5; clear hb5; rename Hid _ => hb5; rintro e w14 ⟨rfl, hh6, hc6⟩))
        have c14 : Chg S14 (w13) w14 := (Chg.ofNew ((bl_dr (bl_re (w13))).trans hb5.out)).trans hc6
        have P14 := Lib.hid (HS14.out.2.2.2 w14 _ hh6 c14)
        have q1' : w14.cell? ⟨b, o + k * 4 + 1, none⟩ = some (.int .i64 x.c) := (World.cell?_of_block (a := ⟨b, o + k * 4 + 1, none⟩) (c14.block b hbw14 nS14)).trans q1
        have q2' : w14.cell? ⟨b, o + k * 4 + 2, none⟩ = some (.string x.s) := (World.cell?_of_block (a := ⟨b, o + k * 4 + 2, none⟩) (c14.block b hbw14 nS14)).trans q2
        have B14 := Lib.hid (c14.below HS14.out.2.2.1 P13.out.1)
        clear hh6 hc6 hb5 q1 q2 c14 nS14
        have q1 := q1'
        have q2 := q2'
        clear q1' q2'
        clear q1 q2
        go_wp2
        have hd := HR.out.2.2.now rfl x.c (text70 x.s).data.toList
        rw [← refD_snoc xs k x HX0.out] at hd
        exact ⟨⟨k + 1, _, _, by omega, by omega, by go_num, P14.out, ((((HR.out.2.1.trans B10.out).trans B11.out).trans B12.out).trans B13.out).trans B14.out, hd⟩, by simp [intOf]; omega⟩
      · have e1 : decide ((k : Int) = n) = false := decide_eq_false hkn
        by_cases hkl : (k : Int) < n
        · go_wp2_with fail
          obtain ⟨S10, hS, hup, hB, _, hback⟩ := HP.out.at_ 0 ga A rfl
          have HS10 := Lib.hid (And.intro hS (And.intro hup (And.intro hB hback)))
          clear hS hup hB hback
          have nS10 : ¬ S10 b := fun x => by have := HS10.out.2.2.1 b x; have := HO.out.2; omega
          have hbw10 : b < (wr).heap.size := Nat.lt_of_lt_of_le HO.out.2 HP.out.1
          go_region_held3 (fun w' => w'.cell? ⟨b, o + k * 4 + 1, none⟩ = some (.int .i64 x.c) ∧ w'.cell? ⟨b, o + k * 4 + 2, none⟩ = some (.string x.s))
            (first
              | go_keep
              | exact ⟨(World.cell?_of_block (a := ⟨b, o + k * 4 + 1, none⟩) (hc6.block b (Nat.lt_of_lt_of_le hbw10 hb5.out.size) nS10)).trans ((hb5.out.cell (p := ⟨b, o + k * 4 + 1, none⟩) hbw10).trans q1), (World.cell?_of_block (a := ⟨b, o + k * 4 + 2, none⟩) (hc6.block b (Nat.lt_of_lt_of_le hbw10 hb5.out.size) nS10)).trans ((hb5.out.cell (p := ⟨b, o + k * 4 + 2, none⟩) hbw10).trans q2)⟩
              | exact ⟨(hb5.cell (p := ⟨b, o + k * 4 + 1, none⟩) hbw10).trans q1, (hb5.cell (p := ⟨b, o + k * 4 + 2, none⟩) hbw10).trans q2⟩)
            (first
              | (go_at_call 18; refine (text_any x.s _ HO.out.1.2.2.1).mono ?_; rintro e w5 ⟨rfl, hb5⟩)
              | (go_at_call 17; refine (write_any S10 ga A x.c (text70 x.s) _ (HS10.out.1.drew.below hb5) HO.out.1.2.1 (by have := text70_size x.s; unfold maxLen; omega) (by have := HX.out; omega) (by have := HX.out; omega) (fun i hi => HS10.out.2.1 i (by have := hb5.size; have : (wr).drew.heap.size = (wr).heap.size := rfl; omega))).mono ?_; have hb5' := Lib.hid hb5; clear hb5; rename Hid _ => hb5; rintro e w10 ⟨rfl, hh6, hc6⟩))
          have c10 : Chg S10 (wr) w10 := (Chg.ofNew ((bl_dr (bl_re (wr))).trans hb5.out)).trans hc6
          have P10 := Lib.hid (HS10.out.2.2.2 w10 _ hh6 c10)
          have q1' : w10.cell? ⟨b, o + k * 4 + 1, none⟩ = some (.int .i64 x.c) := (World.cell?_of_block (a := ⟨b, o + k * 4 + 1, none⟩) (c10.block b hbw10 nS10)).trans q1
          have q2' : w10.cell? ⟨b, o + k * 4 + 2, none⟩ = some (.string x.s) := (World.cell?_of_block (a := ⟨b, o + k * 4 + 2, none⟩) (c10.block b hbw10 nS10)).trans q2
          have B10 := Lib.hid (c10.below HS10.out.2.2.1 HP.out.1)
          clear hh6 hc6 hb5 q1 q2 c10 nS10
          have q1 := q1'
          have q2 := q2'
          clear q1' q2'
          go_wp2_with fail
          obtain ⟨S11, hS, hup, hB, _, hback⟩ := P10.out.at_ 1 gb A rfl
          have HS11 := Lib.hid (And.intro hS (And.intro hup (And.intro hB hback)))
          clear hS hup hB hback
          have nS11 : ¬ S11 b := fun x => by have := HS11.out.2.2.1 b x; have := HO.out.2; omega
          have hbw11 : b < (w10).heap.size := Nat.lt_of_lt_of_le HO.out.2 P10.out.1
          go_region_held3 (fun w' => w'.cell? ⟨b, o + k * 4 + 1, none⟩ = some (.int .i64 x.c) ∧ w'.cell? ⟨b, o + k * 4 + 2, none⟩ = some (.string x.s))
            (first
              | go_keep
              | exact ⟨(World.cell?_of_block (a := ⟨b, o + k * 4 + 1, none⟩) (hc6.block b (Nat.lt_of_lt_of_le hbw11 hb5.out.size) nS11)).trans ((hb5.out.cell (p := ⟨b, o + k * 4 + 1, none⟩) hbw11).trans q1), (World.cell?_of_block (a := ⟨b, o + k * 4 + 2, none⟩) (hc6.block b (Nat.lt_of_lt_of_le hbw11 hb5.out.size) nS11)).trans ((hb5.out.cell (p := ⟨b, o + k * 4 + 2, none⟩) hbw11).trans q2)⟩
              | exact ⟨(hb5.cell (p := ⟨b, o + k * 4 + 1, none⟩) hbw11).trans q1, (hb5.cell (p := ⟨b, o + k * 4 + 2, none⟩) hbw11).trans q2⟩)
            (first
              | (go_at_call 18; refine (text_any x.s _ HO.out.1.2.2.1).mono ?_; rintro e w5 ⟨rfl, hb5⟩)
              | (go_at_call 17; refine (write_any S11 gb A x.c (text70 x.s) _ (HS11.out.1.drew.below hb5) HO.out.1.2.1 (by have := text70_size x.s; unfold maxLen; omega) (by have := HX.out; omega) (by have := HX.out; omega) (fun i hi => HS11.out.2.1 i (by have := hb5.size; have : (w10).drew.heap.size = (w10).heap.size := rfl; omega))).mono ?_; have hb5' := Lib.hid hb5; clear hb5; rename Hid _ => hb5; rintro e w11 ⟨rfl, hh6, hc6⟩))
          have c11 : Chg S11 (w10) w11 := (Chg.ofNew ((bl_dr (bl_re (w10))).trans hb5.out)).trans hc6
          have P11 := Lib.hid (HS11.out.2.2.2 w11 _ hh6 c11)
          have q1' : w11.cell? ⟨b, o + k * 4 + 1, none⟩ = some (.int .i64 x.c) := (World.cell?_of_block (a := ⟨b, o + k * 4 + 1, none⟩) (c11.block b hbw11 nS11)).trans q1
          have q2' : w11.cell? ⟨b, o + k * 4 + 2, none⟩ = some (.string x.s) := (World.cell?_of_block (a := ⟨b, o + k * 4 + 2, none⟩) (c11.block b hbw11 nS11)).trans q2
          have B11 := Lib.hid (c11.below HS11.out.2.2.1 P10.out.1)
          clear hh6 hc6 hb5 q1 q2 c11 nS11
          have q1 := q1'
          have q2 := q2'
          clear q1' q2'
          go_wp2_with fail
          obtain ⟨S12, hS, hup, hB, _, hback⟩ := P11.out.at_ 2 gc C rfl
          have HS12 := Lib.hid (And.intro hS (And.intro hup (And.intro hB hback)))
          clear hS hup hB hback
          have nS12 : ¬ S12 b := fun x => by have := HS12.out.2.2.1 b x; have := HO.out.2; omega
          have hbw12 : b < (w11).heap.size := Nat.lt_of_lt_of_le HO.out.2 P11.out.1
          go_region_held3 (fun w' => w'.cell? ⟨b, o + k * 4 + 1, none⟩ = some (.int .i64 x.c) ∧ w'.cell? ⟨b, o + k * 4 + 2, none⟩ = some (.string x.s))
            (first
              | go_keep
              | exact ⟨(World.cell?_of_block (a := ⟨b, o + k * 4 + 1, none⟩) (hc6.block b (Nat.lt_of_lt_of_le hbw12 hb5.out.size) nS12)).trans ((hb5.out.cell (p := ⟨b, o + k * 4 + 1, none⟩) hbw12).trans q1), (World.cell?_of_block (a := ⟨b, o + k * 4 + 2, none⟩) (hc6.block b (Nat.lt_of_lt_of_le hbw12 hb5.out.size) nS12)).trans ((hb5.out.cell (p := ⟨b, o + k * 4 + 2, none⟩) hbw12).trans q2)⟩
              | exact ⟨(hb5.cell (p := ⟨b, o + k * 4 + 1, none⟩) hbw12).trans q1, (hb5.cell (p := ⟨b, o + k * 4 + 2, none⟩) hbw12).trans q2⟩)
            (first
              | (go_at_call 18; refine (text_any x.s _ HO.out.1.2.2.1).mono ?_; rintro e w5 ⟨rfl, hb5⟩)
              | (go_at_call 17; refine (write_any S12 gc C x.c (text70 x.s) _ (HS12.out.1.drew.below hb5) HO.out.1.2.1 (by have := text70_size x.s; unfold maxLen; omega) (by have := HX.out; omega) (by have := HX.out; omega) (fun i hi => HS12.out.2.1 i (by have := hb5.size; have : (w11).drew.heap.size = (w11).heap.size := rfl; omega))).mono ?_; have hb5' := Lib.hid hb5; clear hb5; rename Hid _ => hb5; rintro e w12 ⟨rfl, hh6, hc6⟩))
          have c12 : Chg S12 (w11) w12 := (Chg.ofNew ((bl_dr (bl_re (w11))).trans hb5.out)).trans hc6
          have P12 := Lib.hid (HS12.out.2.2.2 w12 _ hh6 c12)
          have q1' : w12.cell? ⟨b, o + k * 4 + 1, none⟩ = some (.int .i64 x.c) := (World.cell?_of_block (a := ⟨b, o + k * 4 + 1, none⟩) (c12.block b hbw12 nS12)).trans q1
          have q2' : w12.cell? ⟨b, o + k * 4 + 2, none⟩ = some (.string x.s) := (World.cell?_of_block (a := ⟨b, o + k * 4 + 2, none⟩) (c12.block b hbw12 nS12)).trans q2
          have B12 := Lib.hid (c12.below HS12.out.2.2.1 P11.out.1)
          clear hh6 hc6 hb5 q1 q2 c12 nS12
          have q1 := q1'
          have q2 := q2'
          clear q1' q2'
          clear q1 q2
          go_wp2
          have hd := HR.out.2.2.early hkl x.c (text70 x.s).data.toList
          rw [← refD_snoc xs k x HX0.out] at hd
          exact ⟨⟨k + 1, _, _, by omega, by omega, by go_num, P12.out, ((HR.out.2.1.trans B10.out).trans B11.out).trans B12.out, hd⟩, by simp [intOf]; omega⟩
        · go_wp2_with fail
          obtain ⟨S10, hS, hup, hB, _, hback⟩ := HP.out.at_ 0 ga A rfl
          have HS10 := Lib.hid (And.intro hS (And.intro hup (And.intro hB hback)))
          clear hS hup hB hback
          have nS10 : ¬ S10 b := fun x => by have := HS10.out.2.2.1 b x; have := HO.out.2; omega
          have hbw10 : b < (wr).heap.size := Nat.lt_of_lt_of_le HO.out.2 HP.out.1
          go_region_held3 (fun w' => w'.cell? ⟨b, o + k * 4 + 1, none⟩ = some (.int .i64 x.c) ∧ w'.cell? ⟨b, o + k * 4 + 2, none⟩ = some (.string x.s))
            (first
              | go_keep
              | exact ⟨(World.cell?_of_block (a := ⟨b, o + k * 4 + 1, none⟩) (hc6.block b (Nat.lt_of_lt_of_le hbw10 hb5.out.size) nS10)).trans ((hb5.out.cell (p := ⟨b, o + k * 4 + 1, none⟩) hbw10).trans q1), (World.cell?_of_block (a := ⟨b, o + k * 4 + 2, none⟩) (hc6.block b (Nat.lt_of_lt_of_le hbw10 hb5.out.size) nS10)).trans ((hb5.out.cell (p := ⟨b, o + k * 4 + 2, none⟩) hbw10).trans q2)⟩
              | exact ⟨(hb5.cell (p := ⟨b, o + k * 4 + 1, none⟩) hbw10).trans q1, (hb5.cell (p := ⟨b, o + k * 4 + 2, none⟩) hbw10).trans q2⟩)
            (first
              | (go_at_call 18; refine (text_any x.s _ HO.out.1.2.2.1).mono ?_; rintro e w5 ⟨rfl, hb5⟩)
              | (go_at_call 17; refine (write_any S10 ga A x.c (text70 x.s) _ (HS10.out.1.drew.below hb5) HO.out.1.2.1 (by have := text70_size x.s; unfold maxLen; omega) (by have := HX.out; omega) (by have := HX.out; omega) (fun i hi => HS10.out.2.1 i (by have := hb5.size; have : (wr).drew.heap.size = (wr).heap.size := rfl; omega))).mono ?_; have hb5' := Lib.hid hb5; clear hb5; rename Hid _ => hb5; rintro e w10 ⟨rfl, hh6, hc6⟩))
          have c10 : Chg S10 (wr) w10 := (Chg.ofNew ((bl_dr (bl_re (wr))).trans hb5.out)).trans hc6
          have P10 := Lib.hid (HS10.out.2.2.2 w10 _ hh6 c10)
          have q1' : w10.cell? ⟨b, o + k * 4 + 1, none⟩ = some (.int .i64 x.c) := (World.cell?_of_block (a := ⟨b, o + k * 4 + 1, none⟩) (c10.block b hbw10 nS10)).trans q1
          have q2' : w10.cell? ⟨b, o + k * 4 + 2, none⟩ = some (.string x.s) := (World.cell?_of_block (a := ⟨b, o + k * 4 + 2, none⟩) (c10.block b hbw10 nS10)).trans q2
          have B10 := Lib.hid (c10.below HS10.out.2.2.1 HP.out.1)
          clear hh6 hc6 hb5 q1 q2 c10 nS10
          have q1 := q1'
          have q2 := q2'
          clear q1' q2'
          go_wp2_with fail
          obtain ⟨S11, hS, hup, hB, _, hback⟩ := P10.out.at_ 1 gb A rfl
          have HS11 := Lib.hid (And.intro hS (And.intro hup (And.intro hB hback)))
          clear hS hup hB hback
          have nS11 : ¬ S11 b := fun x => by have := HS11.out.2.2.1 b x; have := HO.out.2; omega
          have hbw11 : b < (w10).heap.size := Nat.lt_of_lt_of_le HO.out.2 P10.out.1
          go_region_held3 (fun w' => w'.cell? ⟨b, o + k * 4 + 1, none⟩ = some (.int .i64 x.c) ∧ w'.cell? ⟨b, o + k * 4 + 2, none⟩ = some (.string x.s))
            (first
              | go_keep
              | exact ⟨(World.cell?_of_block (a := ⟨b, o + k * 4 + 1, none⟩) (hc6.block b (Nat.lt_of_lt_of_le hbw11 hb5.out.size) nS11)).trans ((hb5.out.cell (p := ⟨b, o + k * 4 + 1, none⟩) hbw11).trans q1), (World.cell?_of_block (a := ⟨b, o + k * 4 + 2, none⟩) (hc6.block b (Nat.lt_of_lt_of_le hbw11 hb5.out.size) nS11)).trans ((hb5.out.cell (p := ⟨b, o + k * 4 + 2, none⟩) hbw11).trans q2)⟩
              | exact ⟨(hb5.cell (p := ⟨b, o + k * 4 + 1, none⟩) hbw11).trans q1, (hb5.cell (p := ⟨b, o + k * 4 + 2, none⟩) hbw11).trans q2⟩)
            (first
              | (go_at_call 18; refine (text_any x.s _ HO.out.1.2.2.1).mono ?_; rintro e w5 ⟨rfl, hb5⟩)
              | (go_at_call 17; refine (write_any S11 gb A x.c (text70 x.s) _ (HS11.out.1.drew.below hb5) HO.out.1.2.1 (by have := text70_size x.s; unfold maxLen; omega) (by have := HX.out; omega) (by have := HX.out; omega) (fun i hi => HS11.out.2.1 i (by have := hb5.size; have : (w10).drew.heap.size = (w10).heap.size := rfl; omega))).mono ?_; have hb5' := Lib.hid hb5; clear hb5; rename Hid _ => hb5; rintro e w11 ⟨rfl, hh6, hc6⟩))
          have c11 : Chg S11 (w10) w11 := (Chg.ofNew ((bl_dr (bl_re (w10))).trans hb5.out)).trans hc6
          have P11 := Lib.hid (HS11.out.2.2.2 w11 _ hh6 c11)
          have q1' : w11.cell? ⟨b, o + k * 4 + 1, none⟩ = some (.int .i64 x.c) := (World.cell?_of_block (a := ⟨b, o + k * 4 + 1, none⟩) (c11.block b hbw11 nS11)).trans q1
          have q2' : w11.cell? ⟨b, o + k * 4 + 2, none⟩ = some (.string x.s) := (World.cell?_of_block (a := ⟨b, o + k * 4 + 2, none⟩) (c11.block b hbw11 nS11)).trans q2
          have B11 := Lib.hid (c11.below HS11.out.2.2.1 P10.out.1)
          clear hh6 hc6 hb5 q1 q2 c11 nS11
          have q1 := q1'
          have q2 := q2'
          clear q1' q2'
          clear q1 q2
          go_wp2
          have hd := HR.out.2.2.late (by omega) x.c (text70 x.s).data.toList
          rw [← refD_snoc xs k x HX0.out] at hd
          exact ⟨⟨k + 1, _, _, by omega, by omega, by go_num, P11.out, (HR.out.2.1.trans B10.out).trans B11.out, hd⟩, by simp [intOf]; omega⟩
    · have hex : ¬ (k : Int) < (n1 : Int) ∨ (k : Int) < (n1 : Int) ∧ ¬ (k : Int) < 80 := by omega
      have hkk : k = n1 ∨ k = 80 ∧ k < n1 := by omega
      obtain ⟨hP, hbw, hrel⟩ := HR.out
      obtain ⟨S0, hS, hup, hB, _, hback⟩ := hP.at_ 0 ga A rfl
      have HU := Lib.hid (unsynced_any S0 ga A wr hS)
      have HK := Lib.hid hkk
      clear hS hup hB hback hP hbw hrel hlt hkk
      rcases hex with e1 | ⟨e1, e2⟩
      all_goals
        go_wp2_with fail
        refine HU.out.mono ?_
        rintro e w5 ⟨sa, ca, rfl, _, hb5⟩
        have P5 := Lib.hid (HR.out.1.below hb5 [] (by simp))
        have G5 := Lib.hid (HR.out.2.1.trans (hb5.mono HR.out.1.1))
        have hA80 : A.U.length ≤ 80 := by have := HR.out.2.2.ua; omega
        clear hb5
        generalize hu : A.U.length = u at *
        have HUU := Lib.hid hu
        clear hu
        obtain ⟨j0, hi0, hz0, hz1, hz2⟩ := info_parts info_int
        have HI := Lib.hid (And.intro hz1 hz2)
        clear hz1 hz2
        go_wp2_with fail
        go_loopw [14, 15] (fun v i wr => ∃ j : Nat, j ≤ u ∧ i = .int .i64 j ∧ wr.ownsRow w5.heap.size 3 1 v j (List.replicate j (.int .i64 64)) ∧ Below w5.heap.size w5 wr) (fun _ i _ => u - (intOf i).toNat)
        case atStart => exact ⟨0, by omega, rfl, World.ownsRow_nil _ _ _ _, Below.refl _ _⟩
        case round =>
          obtain ⟨j, hj, rfl, hown, hbl⟩ := hrel
          have HQ := Lib.hid (And.intro hown hbl)
          clear hown hbl
          by_cases hlt : j < u
          · have i2 : (j : Int) < (u : Int) := by omega
            go_wp2_with (at_builtin
                         refine wpList_append_own _ rfl (.tmp 113) (.tmp 114) 23 rfl w5.heap.size 3 j0 (.int .i64 0) 1 8 Try.underlying23 hi0 hz0 HI.out.1 HI.out.2 rfl (by omega) _ j (List.replicate j (.int .i64 64)) rfl (HQ.out.1.alloc _) ⟨_, 0, none⟩ 1 1 [.int .i64 64] rfl rfl
                           (World.news_of_block (cs := #[.int .i64 64]) (t := 3) (fr := (0, 0)) (heap_alloc_new _ _)) (by simp [Value.oneCell']) (by unfold maxLen; omega) (by omega) (by have := HQ.out.2.size; simp; omega) ?_
                         intro v' w7 hown hgrow _
                         have KB := Lib.hid (And.intro hown hgrow)
                         clear hown hgrow)
            obtain ⟨hown, hgrow⟩ := KB.out
            have hsz := hgrow.size
            refine ⟨⟨j + 1, by omega, by go_num, by rw [List.replicate_succ']; exact hown, ?_⟩, by simp [intOf]; omega⟩
            refine ((HQ.out.2.alloc HQ.out.2.size _)).grown hgrow (by have := HQ.out.2.size; simp; omega) (fun b hb => ?_)
            exact (HQ.out.1.lt b hb).1
          · obtain rfl : j = u := by omega
            have i2 : ¬ (j : Int) < (j : Int) := by omega
            have P6 : Hid (∃ R, Pack w.heap.size wr R [(ga, A), (gb, A), (gc, C)] ∧ ∀ b, u14.ownBlock = some b → b ∈ R) := Lib.hid (by
              cases hv : u14.ownBlock with
              | none => exact ⟨[], P5.out.below HQ.out.2 [] (by simp), by simp⟩
              | some rb =>
                have := HQ.out.1.lt rb hv
                exact ⟨[rb], P5.out.below HQ.out.2 [rb] (by intro k hk; rw [List.mem_singleton.1 hk]; exact this), by intro b hb; rw [Option.some.inj hb]; simp⟩)
            have hform : ∃ (sk : Option Addr) (ck : Nat), u14 = .slice sk j ck := by
              rcases HQ.out.1.2 with ⟨e, h0⟩ | ⟨gg, cp, cur, e, _⟩
              · exact ⟨none, 0, by rw [e, h0]⟩
              · exact ⟨_, _, e⟩
            obtain ⟨sk, ck, rfl⟩ := hform
            have hints : IntsAt wr sk (List.replicate j 64) := by
              intro i y hi
              have hi' := (List.getElem?_eq_some_iff.1 hi).1
              have hy := List.eq_of_mem_replicate (List.mem_of_getElem? hi)
              subst hy
              rw [List.length_replicate] at hi'
              obtain ⟨gg, cp, he, _, hgl⟩ := HQ.out.1.form (by omega)
              simp at he
              obtain ⟨rfl, rfl⟩ := he
              exact ⟨_, rfl, hgl, HQ.out.1.cells rfl i _ (by rw [List.getElem?_replicate, if_pos hi'])⟩
            obtain ⟨R6, hP6, hR6⟩ := P6.out
            obtain ⟨Sa, hS, hup, hB, hRr, hback⟩ := hP6.at_ 0 ga A rfl
            have hcr := crash_any Sa ga A sk ck j (List.replicate j 64) wr hS (by simp) (by rw [List.length_replicate]; unfold maxLen; omega) (fun y hy => by rw [List.eq_of_mem_replicate hy]; omega) hints (fun ad had _ => by
              subst had
              exact hRr _ (hR6 _ rfl))
            have hca := crash_all A
            rw [HUU.out] at hca
            rw [hca] at hcr
            have HCR := Lib.hid hcr
            have HSa := Lib.hid (And.intro hB hback)
            clear hcr hca hints hS hup hB hRr hback hP6 hR6
            go_wp2_with fail
            refine HCR.out.mono ?_
            rintro e w7 ⟨rfl, hh7, hc7⟩
            have P7 := Lib.hid (HSa.out.2 w7 _ hh7 hc7)
            have G7 := Lib.hid ((G5.out.trans (HQ.out.2.mono (by have := G5.out.size; exact this))).trans (hc7.below HSa.out.1 (Nat.le_trans G5.out.size HQ.out.2.size)))
            clear hh7 hc7
            obtain ⟨S8, hS, hup, hB, _, hback⟩ := P7.out.at_ 1 gb A rfl
            have hcr := crash_any S8 gb A none 0 0 [] w7 hS rfl (by simp) (by simp) (by intro k x hk; simp at hk) (by simp)
            rw [crash_none] at hcr
            have HCR8 := Lib.hid hcr
            have HS8 := Lib.hid (And.intro hB hback)
            clear hcr hS hup hB hback
            go_wp2_with fail
            refine HCR8.out.mono ?_
            rintro e w8 ⟨rfl, hh7, hc7⟩
            have P8 := Lib.hid (HS8.out.2 w8 _ hh7 hc7)
            have G8 := Lib.hid (G7.out.trans (hc7.below HS8.out.1 G7.out.size))
            clear hh7 hc7
            obtain ⟨S9, hS, hup, hB, _, hback⟩ := P8.out.at_ 2 gc C rfl
            have hcr := crash_any S9 gc C none 0 0 [] w8 hS rfl (by simp) (by simp) (by intro k x hk; simp at hk) (by simp)
            rw [crash_none] at hcr
            have HCR9 := Lib.hid hcr
            have HS9 := Lib.hid (And.intro hB hback)
            clear hcr hS hup hB hback
            go_wp2_with fail
            refine HCR9.out.mono ?_
            rintro e w9 ⟨rfl, hh7, hc7⟩
            have P9 := Lib.hid (HS9.out.2 w9 _ hh7 hc7)
            have G9 := Lib.hid (G8.out.trans (hc7.below HS9.out.1 G8.out.size))
            clear hh7 hc7
            go_wp2_with fail
            refine (new_at w9).mono ?_
            rintro e w10 ⟨gd, rfl, hb10, hn10⟩
            have G10 := Lib.hid (G9.out.trans (hb10.mono G9.out.size))
            have P10 := Lib.hid (P9.out.new hb10 gd (Dk.new 8) hn10)
            clear hb10 hn10
            go_wp2_with fail
            go_loopw [21] (fun i wr => ∃ q : Nat, q ≤ n1 ∧ q ≤ 80 ∧ i = .int .i64 q ∧ Pack w.heap.size wr R6 [(ga, { A with S := Dk.puts A.S A.U (List.replicate j 64), U := [] }), (gb, { A with U := [] }), (gc, { C with U := [] }), (gd, refD xs q)] ∧ Below w.heap.size w wr ∧
                (refD xs q).U.length ≤ q ∧ (refD xs q).N ≤ q) (fun i _ => 80 - (intOf i).toNat)
            case atStart => exact ⟨0, by omega, by omega, rfl, P10.out, G10.out, by simp [refD, Dk.new], by simp [refD, Dk.new]⟩
            case round =>
              obtain ⟨q, hq1, hq2, rfl, hrest⟩ := hrel
              have HR3 := Lib.hid hrest
              clear hrest
              by_cases hlt : q < n1 ∧ q < 80
              · obtain ⟨hl1, hl2⟩ := hlt
                obtain ⟨x, hx⟩ : ∃ x, xs[q]? = some x := ⟨_, List.getElem?_eq_getElem (by rw [HA.out.1]; exact hl1)⟩
                obtain ⟨hok, b, o, rfl, hb, c0, c1, c2, c3⟩ := HA.out.2 q x hx
                have q1 : wr.cell? ⟨b, o + q * 4 + 1, none⟩ = some (.int .i64 x.c) := (HR3.out.2.1.cell hb).trans c1
                have q2 : wr.cell? ⟨b, o + q * 4 + 2, none⟩ = some (.string x.s) := (HR3.out.2.1.cell hb).trans c2
                have HO := Lib.hid (And.intro hok hb)
                have HX0 := Lib.hid hx
                clear hok c0 c1 c2 c3 hb hx
                have i0 : (0 : Int) ≤ (q : Int) := Int.natCast_nonneg _
                have i1 : (q : Int) < (n1 : Int) := by omega
                have HP3 := Lib.hid HR3.out.1
                have HX : Hid ((refD xs q).U.length ≤ 80 ∧ (refD xs q).N ≤ 80) := Lib.hid (by have h := HR3.out.2.2; omega)
                go_wp2_with fail
                obtain ⟨S20, hS, hup, hB, _, hback⟩ := HP3.out.at_ 3 gd (refD xs q) rfl
                have HS20 := Lib.hid (And.intro hS (And.intro hup (And.intro hB hback)))
                clear hS hup hB hback
                have nS20 : ¬ S20 b := fun x => by have := HS20.out.2.2.1 b x; have := HO.out.2; omega
                have hbw20 : b < (wr).heap.size := Nat.lt_of_lt_of_le HO.out.2 HP3.out.1
                go_region_held3 (fun w' => w'.cell? ⟨b, o + q * 4 + 1, none⟩ = some (.int .i64 x.c) ∧ w'.cell? ⟨b, o + q * 4 + 2, none⟩ = some (.string x.s))
                  (first
                    | go_keep
                    | exact ⟨(World.cell?_of_block (a := ⟨b, o + q * 4 + 1, none⟩) (hc6.block b (Nat.lt_of_lt_of_le hbw20 hb5.out.size) nS20)).trans ((hb5.out.cell (p := ⟨b, o + q * 4 + 1, none⟩) hbw20).trans q1), (World.cell?_of_block (a := ⟨b, o + q * 4 + 2, none⟩) (hc6.block b (Nat.lt_of_lt_of_le hbw20 hb5.out.size) nS20)).trans ((hb5.out.cell (p := ⟨b, o + q * 4 + 2, none⟩) hbw20).trans q2)⟩
                    | exact ⟨(hb5.cell (p := ⟨b, o + q * 4 + 1, none⟩) hbw20).trans q1, (hb5.cell (p := ⟨b, o + q * 4 + 2, none⟩) hbw20).trans q2⟩)
                  (first
                    | (go_at_call 18; refine (text_any x.s _ HO.out.1.2.2.1).mono ?_; rintro e w5 ⟨rfl, hb5⟩)
                    | (go_at_call 17; refine (write_any S20 gd (refD xs q) x.c (text70 x.s) _ (HS20.out.1.drew.below hb5) HO.out.1.2.1 (by have := text70_size x.s; unfold maxLen; omega) (by have := HX.out; omega) (by have := HX.out; omega) (fun i hi => HS20.out.2.1 i (by have := hb5.size; have : (wr).drew.heap.size = (wr).heap.size := rfl; omega))).mono ?_; have hb5' := Lib.hid hb5; clear hb5; rename Hid _ => hb5; rintro e w20 ⟨rfl, hh6, hc6⟩))
                have c20 : Chg S20 (wr) w20 := (Chg.ofNew ((bl_dr (bl_re (wr))).trans hb5.out)).trans hc6
                have P20 := Lib.hid (HS20.out.2.2.2 w20 _ hh6 c20)
                have q1' : w20.cell? ⟨b, o + q * 4 + 1, none⟩ = some (.int .i64 x.c) := (World.cell?_of_block (a := ⟨b, o + q * 4 + 1, none⟩) (c20.block b hbw20 nS20)).trans q1
                have q2' : w20.cell? ⟨b, o + q * 4 + 2, none⟩ = some (.string x.s) := (World.cell?_of_block (a := ⟨b, o + q * 4 + 2, none⟩) (c20.block b hbw20 nS20)).trans q2
                have B20 := Lib.hid (c20.below HS20.out.2.2.1 HP3.out.1)
                clear hh6 hc6 hb5 q1 q2 c20 nS20
                have q1 := q1'
                have q2 := q2'
                clear q1' q2'
                clear q1 q2
                go_wp2
                have hd := refD_snoc xs q x HX0.out
                have hwu := w_U (refD xs q) x.c (text70 x.s).data.toList
                have h3 := HR3.out.2.2
                refine ⟨⟨q + 1, by omega, by omega, by go_num, ?_⟩, by simp [intOf]; omega⟩
                rw [hd]
                exact ⟨P20.out, HR3.out.2.1.trans B20.out, by omega, by omega⟩
              · obtain rfl : q = k := by have := HK.out; omega
                have hA8 := HR.out.2.2.la
                have L4 : Hid (∀ r, r < 8 → ({ A with S := Dk.puts A.S A.U (List.replicate j 64), U := [] } : Dk).rd r = (refD xs q).rd r ∧ ({ C with U := [] } : Dk).rd r = A.S[r]?.getD [] ∧ ((refD xs q).rd r).length = 64 ∧
                    (Dk.puts A.S A.U (List.replicate j 64)).length = 8 ∧ C.S.length = 8 ∧ (refD xs q).S.length = 8) := Lib.hid (by
                  intro r hr
                  have hrel := HR.out.2.2
                  refine ⟨?_, ?_, rd_length hrel.fe r (by rw [hrel.le]; exact hr), by rw [puts_length]; exact hA8, by rw [hrel.sc]; exact hA8, hrel.le⟩
                  · have h := rd_crash_all hrel.fa r (by rw [hA8]; exact hr)
                    rw [HUU.out] at h
                    rw [h]
                    exact hrel.rd r hr
                  · rw [rd_crash_none, hrel.sc])
                have HA8 := Lib.hid hA8
                have HRR := Lib.hid (And.intro HR3.out.1 HR3.out.2.1)
                clear hA8 hlt
                go_wp2_with fail
                go_loopw [22] (fun i wr => ∃ r : Nat, r ≤ 8 ∧ i = .int .i64 r ∧ Pack w.heap.size wr R6 [(ga, { A with S := Dk.puts A.S A.U (List.replicate j 64), U := [] }), (gb, { A with U := [] }), (gc, { C with U := [] }), (gd, refD xs q)] ∧ Below w.heap.size w wr) (fun i _ => 8 - (intOf i).toNat)
                case atStart => exact ⟨0, by omega, rfl, HRR.out.1, HRR.out.2⟩
                case round =>
                  obtain ⟨r, hr, rfl, hrest⟩ := hrel
                  have HR4 := Lib.hid hrest
                  clear hrest
                  by_cases hlt : r < 8
                  · have i0 : (0 : Int) ≤ (r : Int) := Int.natCast_nonneg _
                    have i5 : (r : Int) < 8 := by omega
                    obtain ⟨l1, l2, l3, l4, l5, l6⟩ := L4.out r hlt
                    obtain ⟨S1, hS, _, _, _, _⟩ := HR4.out.1.at_ 0 ga _ rfl
                    have hr1 := read_ok S1 ga _ r wr hS (by rw [show ({ A with S := Dk.puts A.S A.U (List.replicate j 64), U := [] } : Dk).S.length = 8 from l4]; exact hlt)
                    rw [l1] at hr1
                    clear hS
                    obtain ⟨X, hX⟩ : ∃ X, (refD xs q).rd r = X := ⟨_, rfl⟩
                    rw [hX] at hr1 l3
                    obtain ⟨Y, hY⟩ : ∃ Y, A.S[r]?.getD [] = Y := ⟨_, rfl⟩
                    rw [hY] at l2
                    have HX := Lib.hid (And.intro hX (And.intro hY (And.intro l2 (And.intro l3 (And.intro l4 (And.intro l5 l6))))))
                    have HQ1 := Lib.hid hr1
                    have z1 : (mk X).size = 64 := by rw [mk_size]; exact l3
                    clear hr1 hX hY l1 l2 l3 l4 l5 l6
                    go_wp2_with fail
                    refine HQ1.out.mono ?_
                    rintro e wa ⟨rfl, hb1⟩
                    have PA := Lib.hid (And.intro (HR4.out.1.below hb1 [] (by simp)) (HR4.out.2.trans (hb1.mono HR4.out.2.size)))
                    clear hb1
                    obtain ⟨S2, hS, _, _, _, _⟩ := PA.out.1.at_ 3 gd _ rfl
                    have hr2 := read_ok S2 gd _ r wa hS (by rw [HX.out.2.2.2.2.2.2]; exact hlt)
                    rw [HX.out.1] at hr2
                    have HQ2 := Lib.hid hr2
                    clear hr2 hS
                    go_wp2_with fail
                    refine HQ2.out.mono ?_
                    rintro e wb ⟨rfl, hb2⟩
                    have PB := Lib.hid (And.intro (PA.out.1.below hb2 [] (by simp)) (PA.out.2.trans (hb2.mono PA.out.2.size)))
                    clear hb2
                    obtain ⟨S3, hS, _, _, _, _⟩ := PB.out.1.at_ 1 gb _ rfl
                    have hr3 := read_ok S3 gb _ r wb hS (by rw [show ({ A with U := [] } : Dk).S.length = 8 from HA8.out]; exact hlt)
                    rw [rd_crash_none, HX.out.2.1] at hr3
                    have HQ3 := Lib.hid hr3
                    clear hr3 hS
                    go_wp2_with fail
                    refine HQ3.out.mono ?_
                    rintro e wc ⟨rfl, hb3⟩
                    have PC := Lib.hid (And.intro (PB.out.1.below hb3 [] (by simp)) (PB.out.2.trans (hb3.mono PB.out.2.size)))
                    clear hb3
                    obtain ⟨S4, hS, _, _, _, _⟩ := PC.out.1.at_ 2 gc _ rfl
                    have hr4 := read_ok S4 gc _ r wc hS (by rw [show ({ C with U := [] } : Dk).S.length = 8 from HX.out.2.2.2.2.2.1]; exact hlt)
                    rw [HX.out.2.2.1] at hr4
                    have HQ4 := Lib.hid hr4
                    clear hr4 hS
                    go_wp2_with fail
                    refine HQ4.out.mono ?_
                    rintro e wd ⟨rfl, hb4⟩
                    have PD := Lib.hid (And.intro (PC.out.1.below hb4 [] (by simp)) (PC.out.2.trans (hb4.mono PC.out.2.size)))
                    clear hb4
                    go_wp2
                    exact ⟨⟨r + 1, by omega, by go_num, PD.out.1, PD.out.2⟩, by simp [intOf]; omega⟩
                  · obtain rfl : r = 8 := by omega
                    have i5 : ¬ ((8 : Nat) : Int) < 8 := by omega
                    obtain ⟨S1, hS, _, _, _, _⟩ := HR4.out.1.at_ 0 ga _ rfl
                    have hu := Lib.hid (unsynced_any S1 ga _ wr hS)
                    clear hS
                    go_wp2_with fail
                    refine hu.out.mono ?_
                    rintro e wz ⟨sz, cz, rfl, _, hbz⟩
                    go_wp2
                    go_ret
                    exact ⟨rfl, HR4.out.2.trans (hbz.mono HR4.out.2.size)⟩
end Go.Proofs.Ytmbjbckjfkijmaa
