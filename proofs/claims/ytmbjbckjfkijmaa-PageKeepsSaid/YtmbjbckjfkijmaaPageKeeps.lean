/- PageKeeps: what is written is read, of each page that was written last, and no other page changes it. -/
import Derived.Test.YtmbjbckjfkijmaaPageKeepsM
import Derived.Test.YtmbjbckjfkijmaaLawP
import Derived.Test.YtmbjbckjfkijmaaArgsP2
import Derived.Test.YtmbjbckjfkijmaaPageSizes
namespace Go.Proofs.Ytmbjbckjfkijmaa
open Go.RowKit Go.Shelf
set_option linter.unusedVariables false
attribute [local go_sem ↓] Go.wp_at_zero Go.wp_at_succ

theorem get_set4 (cs : Array Value) (a : Nat) (h : a + 3 < cs.size) (v0 v1 v2 v3 : Value) :
    ((((cs.setIfInBounds a v0).setIfInBounds (a + 1) v1).setIfInBounds (a + 2) v2).setIfInBounds (a + 3) v3)[a]? = some v0 ∧ ((((cs.setIfInBounds a v0).setIfInBounds (a + 1) v1).setIfInBounds (a + 2) v2).setIfInBounds (a + 3) v3)[a + 1]? = some v1 ∧
    ((((cs.setIfInBounds a v0).setIfInBounds (a + 1) v1).setIfInBounds (a + 2) v2).setIfInBounds (a + 3) v3)[a + 2]? = some v2 ∧ ((((cs.setIfInBounds a v0).setIfInBounds (a + 1) v1).setIfInBounds (a + 2) v2).setIfInBounds (a + 3) v3)[a + 3]? = some v3 ∧
    ∀ i, i < a ∨ a + 3 < i → ((((cs.setIfInBounds a v0).setIfInBounds (a + 1) v1).setIfInBounds (a + 2) v2).setIfInBounds (a + 3) v3)[i]? = cs[i]? := by
  simp only [Array.getElem?_setIfInBounds, Array.size_setIfInBounds]
  refine ⟨?_, ?_, ?_, ?_, ?_⟩
  · rw [if_neg (by omega), if_neg (by omega), if_neg (by omega), if_pos trivial, if_pos (by omega)]
  · rw [if_neg (by omega), if_neg (by omega), if_pos trivial, if_pos (by omega)]
  · rw [if_neg (by omega), if_pos trivial, if_pos (by omega)]
  · rw [if_pos trivial, if_pos (by omega)]
  · intro i hi
    rw [if_neg (by omega), if_neg (by omega), if_neg (by omega), if_neg (by omega)]
/-- The array of what is wanted: block bw. -/
def WantAt (W : World) (bw : Nat) (f : Nat → Wp) : Prop := ∃ cs : Array Value, Blk W bw 73 cs ∧ cs.size = 40 ∧ ∀ j, j < 10 → cs[j * 4]? = some (.int .i64 ((f j).k : Int)) ∧ cs[j * 4 + 1]? = some (.int .u32 ((f j).i : Int)) ∧ cs[j * 4 + 2]? = some (.int .u64 ((f j).t : Int)) ∧ cs[j * 4 + 3]? = some (.string (f j).b)
theorem WantAt.below {W W' : World} {bw : Nat} {f : Nat → Wp} (h : WantAt W bw f) (hb : Below W.heap.size W W') : WantAt W' bw f := by
  obtain ⟨cs, h1, h2⟩ := h
  exact ⟨cs, h1.below hb h1.lt, h2⟩
theorem WantAt.chg {S : Nat → Prop} {W W' : World} {bw : Nat} {f : Nat → Wp} (h : WantAt W bw f) (hc : Chg S W W') (hn : ¬ S bw) : WantAt W' bw f := by
  obtain ⟨cs, h1, h2⟩ := h
  exact ⟨cs, h1.chg hc hn, h2⟩

set_option maxRecDepth 100000 in
set_option maxHeartbeats 8000000 in
theorem pageKeeps_walk (so : Option Addr) (n1 cap : Nat) (xs : List PageA) (hx1 : xs.length = n1) (hx2 : n1 ≤ maxLen) (w : World) (hxs : PagesAt w so xs) :
    Calls Try.prog 14 #[.slice so n1 cap] w fun e w' => e = .returned (.bool true) ∧ Below w.heap.size w w' := by
  have hn1 : (n1 : Int) ≤ 9223372036854775807 := by unfold maxLen at hx2; omega
  have H0 := Lib.hid (fun w => shown3_any w)
  have HA := Lib.hid (And.intro hx1 hxs)
  clear hxs hx1 hx2
  go_enter Try.func14, Try.ntmps14
  go_wp2_with fail
  refine (H0.out _).mono ?_
  rintro e w1 ⟨rfl, hb1⟩
  have hnew := new_yes (From w.heap.size []) 40 w1 (by omega) (by omega) (fun k hk => ⟨by have := hb1.size; omega, by simp⟩)
  rw [show ((40 : Nat) : Int) = 40 from rfl] at hnew
  have HN := Lib.hid hnew
  have G1 := Lib.hid hb1
  clear hnew hb1
  go_wp2_with fail
  refine HN.out.mono ?_
  rintro e w2 ⟨g, rfl, hg, hh2, hb2⟩
  have G2 := Lib.hid (And.intro hh2 (bl_tr G1.out hb2))
  clear hh2 hb2
  go_wp2_with fail
  have hW0 : ∃ v0 bw, w2.heap.size = bw ∧ w2.alloc (.cells #[.int .i64 0, .int .u32 0, .int .u64 0, .string ⟨#[]⟩, .int .i64 0, .int .u32 0, .int .u64 0, .string ⟨#[]⟩, .int .i64 0, .int .u32 0, .int .u64 0, .string ⟨#[]⟩, .int .i64 0, .int .u32 0, .int .u64 0, .string ⟨#[]⟩, .int .i64 0, .int .u32 0, .int .u64 0, .string ⟨#[]⟩, .int .i64 0, .int .u32 0, .int .u64 0, .string ⟨#[]⟩, .int .i64 0, .int .u32 0, .int .u64 0, .string ⟨#[]⟩, .int .i64 0, .int .u32 0, .int .u64 0, .string ⟨#[]⟩, .int .i64 0, .int .u32 0, .int .u64 0, .string ⟨#[]⟩, .int .i64 0, .int .u32 0, .int .u64 0, .string ⟨#[]⟩] 73) = v0 := ⟨_, _, rfl, rfl⟩
  obtain ⟨v0, bw, hbw, hv0⟩ := hW0
  have hs0 : Held (From w.heap.size [bw]) v0 g (Dk.new 40) ∧ Below w.heap.size w v0 ∧ WantAt v0 bw (fun _ => Wp.zero) := by
    subst hbw
    subst hv0
    refine ⟨(From.sub G2.out.1 _ (Nat.le_refl _)).alloc _, bl_al G2.out.2 _, _, Blk.new _ _ _, by simp, ?_⟩
    intro j hj
    match j, hj with
    | 0, _ => exact ⟨rfl, rfl, rfl, rfl⟩
    | 1, _ => exact ⟨rfl, rfl, rfl, rfl⟩
    | 2, _ => exact ⟨rfl, rfl, rfl, rfl⟩
    | 3, _ => exact ⟨rfl, rfl, rfl, rfl⟩
    | 4, _ => exact ⟨rfl, rfl, rfl, rfl⟩
    | 5, _ => exact ⟨rfl, rfl, rfl, rfl⟩
    | 6, _ => exact ⟨rfl, rfl, rfl, rfl⟩
    | 7, _ => exact ⟨rfl, rfl, rfl, rfl⟩
    | 8, _ => exact ⟨rfl, rfl, rfl, rfl⟩
    | 9, _ => exact ⟨rfl, rfl, rfl, rfl⟩
  have HS0 := Lib.hid hs0
  rw [hv0, hbw]
  have HBW := Lib.hid hbw
  clear hv0 hs0 hbw
  go_loopw [7] (fun i wr => ∃ (k : Nat) (D : Dk) (f : Nat → Wp), k ≤ n1 ∧ k ≤ 20 ∧ i = .int .i64 k ∧ Held (From w.heap.size [bw]) wr g D ∧ D.S.length = 40 ∧ D.U.length ≤ 4 * k ∧ D.N ≤ 4 * k ∧ Below w.heap.size w wr ∧ WantAt wr bw f ∧ Keeps D f) (fun i _ => 20 - (intOf i).toNat)
  case atStart =>
    refine ⟨0, Dk.new 40, fun _ => Wp.zero, by omega, by omega, rfl, HS0.out.1, by simp [Dk.new], by simp [Dk.new], by simp [Dk.new], HS0.out.2.1, HS0.out.2.2, ?_⟩
    intro j h2 h9
    exact .inl ⟨rfl, preadV_new 40 j (by omega)⟩
  case round =>
    obtain ⟨k, D, f, hk1, hk2, rfl, hrest⟩ := hrel
    have HR := Lib.hid hrest
    clear hrest
    by_cases hlt : k < n1 ∧ k < 20
    · obtain ⟨hl1, hl2⟩ := hlt
      obtain ⟨x, hx⟩ : ∃ x, xs[k]? = some x := ⟨_, List.getElem?_eq_getElem (by rw [HA.out.1]; exact hl1)⟩
      obtain ⟨hok, b, o, rfl, hb, c0, c1, c2, c3⟩ := HA.out.2 k x hx
      have q0 : wr.cell? ⟨b, o + k * 4, none⟩ = some (.int .i64 x.k) := (HR.out.2.2.2.2.1.cell hb).trans c0
      have q1 : wr.cell? ⟨b, o + k * 4 + 1, none⟩ = some (.int .u32 (x.i : Int)) := (HR.out.2.2.2.2.1.cell hb).trans c1
      have q2 : wr.cell? ⟨b, o + k * 4 + 2, none⟩ = some (.int .u64 (x.t : Int)) := (HR.out.2.2.2.2.1.cell hb).trans c2
      have q3 : wr.cell? ⟨b, o + k * 4 + 3, none⟩ = some (.string x.s) := (HR.out.2.2.2.2.1.cell hb).trans c3
      have HO := Lib.hid hok
      obtain ⟨xk, xi, xt, xs'⟩ := x
      dsimp only at q0 q1 q2 q3
      have i0 : (0 : Int) ≤ (k : Int) := Int.natCast_nonneg _
      have i1 : (k : Int) < (n1 : Int) := by omega
      have hsm := small_any xk xi xt xs' wr HO.out.2.2.2
      obtain ⟨s, hs⟩ : ∃ s, text250 xs' = s := ⟨_, rfl⟩
      rw [hs] at hsm
      have HSM := Lib.hid hsm
      have HSZ : Hid (s.size ≤ 250) := Lib.hid (by have := text250_size xs'; rw [hs] at this; exact this)
      have HXI : Hid (xi < 4294967296) := Lib.hid HO.out.2.1
      clear c0 c1 c2 c3 hx hok hsm hs
      go_wp2_with fail
      refine HSM.out.mono ?_
      rintro e w3 ⟨rfl, hb3⟩
      have HB3 := Lib.hid hb3
      clear hb3 q0 q1 q2 q3
      obtain ⟨m8, hm8⟩ : ∃ m8 : Nat, (xi : Int).tmod 8 = (m8 : Int) ∧ m8 < 8 := ⟨xi % 8, by rw [Int.tmod_eq_emod_of_nonneg (by omega)]; omega, by omega⟩
      have hm9 : (xi : Int) % 8 = (m8 : Int) := by rw [← hm8.1, Int.tmod_eq_emod_of_nonneg (by omega)]
      have hm10 := hm8.1
      have hm11 : (m8 : Int) < 8 := by omega
      obtain ⟨q, hq⟩ : ∃ q, m8 + 2 = q := ⟨_, rfl⟩
      have hq2 : 2 + (m8 : Int) = (q : Int) := by omega
      have hq9 : 2 ≤ q ∧ q ≤ 9 := by omega
      clear hm8 hm9 hm11 hq
      go_wp2_with fail
      cases hr : rightB xk q xt s.size with
      | true =>
        have h3 := (rightB_iff _ _ _ _).1 hr
        obtain ⟨n, rfl⟩ : ∃ n : Nat, xk = n := ⟨xk.toNat, by omega⟩
        have hbsz := HR.out.2.2.2.2.1.size
        have hb3sz := HB3.out.size
        have hbwl : bw < wr.heap.size := by obtain ⟨cs, h1, _⟩ := HR.out.2.2.2.2.2.1; exact h1.lt
        have hHp := (From.sub (HR.out.1.below HB3.out) w3.heap.size (Nat.le_refl _)).alloc (.cells #[.int .i64 (n : Int), .int .u32 (q : Int), .int .u64 (xt : Int), .string s] 60)
        have hU := HR.out.2.2.1
        have hN := HR.out.2.2.2.1
        have hpw := pwrite_ok (From w.heap.size [w3.heap.size, bw]) g D n q xt s _ hHp (by omega) (by omega) HO.out.2.2.1 (by omega) hr (by have := HR.out.2.1; omega) (by omega) (by omega) (fun y hy => ⟨by simp at hy; omega, by simp at hy ⊢; omega⟩)
        refine hpw.mono ?_
        rintro e w4 ⟨rfl, hh4, hc4⟩
        have nb : ¬ From w.heap.size [w3.heap.size, bw] bw := by rintro ⟨_, h⟩; simp at h
        have np : ¬ From w.heap.size [w3.heap.size, bw] w3.heap.size := by rintro ⟨_, h⟩; simp at h
        have hwa := ((HR.out.2.2.2.2.2.1.below HB3.out).below (bl_al (bl_re w3) (.cells #[.int .i64 (n : Int), .int .u32 (q : Int), .int .u64 (xt : Int), .string s] 60))).chg hc4 nb
        have hbp := (Blk.new w3 60 #[.int .i64 (n : Int), .int .u32 (q : Int), .int .u64 (xt : Int), .string s]).chg hc4 np
        have p0 : w4.cell? ⟨w3.heap.size, 0, none⟩ = some (.int .i64 (n : Int)) := hbp.cell 0
        have p1 : w4.cell? ⟨w3.heap.size, 1, none⟩ = some (.int .u32 (q : Int)) := hbp.cell 1
        have p2 : w4.cell? ⟨w3.heap.size, 2, none⟩ = some (.int .u64 (xt : Int)) := hbp.cell 2
        have p3 : w4.cell? ⟨w3.heap.size, 3, none⟩ = some (.string s) := hbp.cell 3
        obtain ⟨cs, hcs1, hcs2, hcs3⟩ := hwa
        have t0 : w4.cell? ⟨bw, q * 4, none⟩ = some (.int .i64 ((f q).k : Int)) := (hcs1.cell _).trans (hcs3 q (by omega)).1
        have t1 : w4.cell? ⟨bw, q * 4 + 1, none⟩ = some (.int .u32 ((f q).i : Int)) := (hcs1.cell _).trans (hcs3 q (by omega)).2.1
        have t2 : w4.cell? ⟨bw, q * 4 + 2, none⟩ = some (.int .u64 ((f q).t : Int)) := (hcs1.cell _).trans (hcs3 q (by omega)).2.2.1
        have t3 : w4.cell? ⟨bw, q * 4 + 3, none⟩ = some (.string (f q).b) := (hcs1.cell _).trans (hcs3 q (by omega)).2.2.2
        have u0 := hcs1.frozen (q * 4)
        have u1 := hcs1.frozen (q * 4 + 1)
        have u2' := hcs1.frozen (q * 4 + 2)
        have u3 := hcs1.frozen (q * 4 + 3)
        have j0 : (0 : Int) ≤ (q : Int) := Int.natCast_nonneg _
        have j1 : (q : Int) < 10 := by omega
        have hch : Below w.heap.size wr w4 := (HB3.out.mono hbsz |>.trans ((bl_al (bl_re w3) _).mono (by omega))).trans (hc4.below (fun y hy => hy.1) (by simp; omega))
        have K4 := Lib.hid (And.intro hh4 (And.intro hch (And.intro (And.intro hcs1 (And.intro hcs2 hcs3)) (And.intro hr (And.intro hbsz (And.intro hb3sz (And.intro hU hN)))))))
        clear hh4 hc4 hpw hHp nb np hbp hcs1 hcs2 hcs3 hch hr h3 hbsz hb3sz hU hN
        go_wp2_with fail
        obtain ⟨hh4, hch, ⟨hcs1, hcs2, hcs3⟩, hr, hbsz, hb3sz, hU, hN⟩ := K4.out
        have hwt : WantAt ((((w4.setCell ⟨bw, q * 4, none⟩ (.int .i64 (n : Int))).setCell ⟨bw, q * 4 + 1, none⟩ (.int .u32 (q : Int))).setCell ⟨bw, q * 4 + 2, none⟩ (.int .u64 (xt : Int))).setCell ⟨bw, q * 4 + 3, none⟩ (.string s)) bw (Wp.upd f q ⟨n, q, xt, s⟩) := by
          refine ⟨_, (((hcs1.set_ _ _).set_ _ _).set_ _ _).set_ _ _, by simp [hcs2], ?_⟩
          intro j hj
          have hs := hcs3 j hj
          obtain ⟨g0, g1, g2, g3, g4⟩ := get_set4 cs (q * 4) (by omega) (.int .i64 (n : Int)) (.int .u32 (q : Int)) (.int .u64 (xt : Int)) (.string s)
          unfold Wp.upd
          by_cases hjq : j = q
          · subst hjq
            rw [if_pos rfl]
            exact ⟨g0, g1, g2, g3⟩
          · rw [if_neg hjq]
            exact ⟨(g4 _ (by omega)).trans hs.1, (g4 _ (by omega)).trans hs.2.1, (g4 _ (by omega)).trans hs.2.2.1, (g4 _ (by omega)).trans hs.2.2.2⟩
        have nb : ¬ From w.heap.size [w3.heap.size, bw] bw := by rintro ⟨_, h⟩; simp at h
        have hbwl : w.heap.size ≤ bw := by rw [← HBW.out]; exact G2.out.2.size
        have hL2 : Held (From w.heap.size [bw]) ((((w4.setCell ⟨bw, q * 4, none⟩ (.int .i64 (n : Int))).setCell ⟨bw, q * 4 + 1, none⟩ (.int .u32 (q : Int))).setCell ⟨bw, q * 4 + 2, none⟩ (.int .u64 (xt : Int))).setCell ⟨bw, q * 4 + 3, none⟩ (.string s)) g (D.pw q (encL n q xt s.data.toList) 4) ∧ Below w.heap.size w ((((w4.setCell ⟨bw, q * 4, none⟩ (.int .i64 (n : Int))).setCell ⟨bw, q * 4 + 1, none⟩ (.int .u32 (q : Int))).setCell ⟨bw, q * 4 + 2, none⟩ (.int .u64 (xt : Int))).setCell ⟨bw, q * 4 + 3, none⟩ (.string s)) ∧
            WantAt ((((w4.setCell ⟨bw, q * 4, none⟩ (.int .i64 (n : Int))).setCell ⟨bw, q * 4 + 1, none⟩ (.int .u32 (q : Int))).setCell ⟨bw, q * 4 + 2, none⟩ (.int .u64 (xt : Int))).setCell ⟨bw, q * 4 + 3, none⟩ (.string s)) bw (Wp.upd f q ⟨n, q, xt, s⟩) ∧ Keeps (D.pw q (encL n q xt s.data.toList) 4) (Wp.upd f q ⟨n, q, xt, s⟩) ∧ (D.pw q (encL n q xt s.data.toList) 4).S.length = 40 ∧ (D.pw q (encL n q xt s.data.toList) 4).U.length ≤ 4 * k + 4 ∧ (D.pw q (encL n q xt s.data.toList) 4).N ≤ 4 * k + 4 := by
          have hu := pw_U D q (encL n q xt s.data.toList) 4
          refine ⟨((((hh4.far nb _).far nb _).far nb _).far nb _).sub fun y _ hy => ⟨hy.1, fun hm => hy.2 (by simp at hm ⊢; exact .inr hm)⟩, ((((HR.out.2.2.2.2.1.trans hch).setCell hbwl _).setCell hbwl _).setCell hbwl _).setCell hbwl _, hwt, HR.out.2.2.2.2.2.2.wrote n q xt s (by omega) HO.out.2.2.1 hr, by rw [pw_S]; exact HR.out.2.1, by omega, by omega⟩
        clear hwt hh4 hch hcs1 hcs2 hcs3 hr hbsz hb3sz hU hN nb hbwl K4 t0 t1 t2 t3 u0 u1 u2' u3 p0 p1 p2 p3
        obtain ⟨wl, hwl⟩ : ∃ wl, ((((w4.setCell ⟨bw, q * 4, none⟩ (.int .i64 (n : Int))).setCell ⟨bw, q * 4 + 1, none⟩ (.int .u32 (q : Int))).setCell ⟨bw, q * 4 + 2, none⟩ (.int .u64 (xt : Int))).setCell ⟨bw, q * 4 + 3, none⟩ (.string s)) = wl := ⟨_, rfl⟩
        rw [hwl] at hL2 ⊢
        clear hwl
        have HL2 : Hid (Held (From w.heap.size [bw]) wl g (D.pw q (encL n q xt s.data.toList) 4) ∧ Below w.heap.size w wl ∧ WantAt wl bw (Wp.upd f q ⟨n, q, xt, s⟩) ∧ Keeps (D.pw q (encL n q xt s.data.toList) 4) (Wp.upd f q ⟨n, q, xt, s⟩) ∧ (D.pw q (encL n q xt s.data.toList) 4).S.length = 40 ∧ (D.pw q (encL n q xt s.data.toList) 4).U.length ≤ 4 * k + 4 ∧ (D.pw q (encL n q xt s.data.toList) 4).N ≤ 4 * k + 4) := Lib.hid hL2
        clear hL2
        obtain ⟨D2, hD2⟩ : ∃ D2, (D.pw q (encL n q xt s.data.toList) 4) = D2 := ⟨_, rfl⟩
        obtain ⟨f2, hf2⟩ : ∃ f2, (Wp.upd f q ⟨n, q, xt, s⟩) = f2 := ⟨_, rfl⟩
        rw [hD2, hf2] at HL2
        clear hD2 hf2
        obtain ⟨wo, rfl⟩ : ∃ wo : World, wo = wr := ⟨_, rfl⟩
        go_loopw [9] (fun i wr => ∃ j : Nat, 2 ≤ j ∧ j ≤ 10 ∧ i = .int .u32 j ∧ Held (From w.heap.size [bw]) wr g D2 ∧ Below w.heap.size w wr ∧ WantAt wr bw f2) (fun i _ => 10 - (intOf i).toNat)
        case atStart => exact ⟨2, by omega, by omega, rfl, HL2.out.1, HL2.out.2.1, HL2.out.2.2.1⟩
        case round =>
          obtain ⟨j, hj2, hj10, rfl, hrest2⟩ := hrel
          have HR2 := Lib.hid hrest2
          clear hrest2
          by_cases hjl : j < 10
          · have e0 : (j : Int) < 10 := by omega
            have e00 : (0 : Int) ≤ (j : Int) := Int.natCast_nonneg _
            have hr2 := pread_ok (From w.heap.size [bw]) g D2 j wr HR2.out.1 (by omega) (by have := HL2.out.2.2.2.2.1; omega)
            rcases HL2.out.2.2.2.1 j hj2 (by omega) with ⟨hz, hp⟩ | ⟨hz, hp⟩
            · rw [hp] at hr2
              unfold pageZ at hr2
              have HRD := Lib.hid hr2
              clear hr2 hp
              go_wp2_with fail
              refine HRD.out.mono ?_
              rintro e w6 ⟨rfl, hb6⟩
              obtain ⟨cs, hcs1, hcs2, hcs3⟩ := HR2.out.2.2.below hb6
              have t2 : w6.cell? ⟨bw, j * 4 + 2, none⟩ = some (.int .u64 ((f2 j).t : Int)) := (hcs1.cell _).trans (hcs3 j (by omega)).2.2.1
              rw [hz] at t2
              have hbl := hcs1.lt
              have H6 := Lib.hid (And.intro (HR2.out.1.below hb6) (And.intro (bl_tr HR2.out.2.1 hb6) (HR2.out.2.2.below hb6)))
              clear hb6 hcs1 hcs2 hcs3 hz
              go_wp2_with fail
              go_quiet (fail)
              go_wp2
              exact ⟨⟨j + 1, by omega, by omega, by go_num, (H6.out.1.alloc _).below (bl_dN (bl_re _) _), bl_dN (bl_al H6.out.2.1 _) _, (H6.out.2.2.below (bl_al (bl_re _) _)).below (bl_dN (bl_re _) _)⟩, by simp [intOf]; omega⟩
            · rw [hp] at hr2
              obtain ⟨kk, hkk⟩ : ∃ kk, (f2 j).k = kk := ⟨_, rfl⟩
              obtain ⟨ii, hii⟩ : ∃ ii, (f2 j).i = ii := ⟨_, rfl⟩
              obtain ⟨tt, htt⟩ : ∃ tt, (f2 j).t = tt := ⟨_, rfl⟩
              obtain ⟨bb, hbb⟩ : ∃ bb, (f2 j).b = bb := ⟨_, rfl⟩
              rw [hkk, hii, htt, hbb] at hr2
              rw [htt] at hz
              have HRD := Lib.hid hr2
              clear hr2 hp
              go_wp2_with fail
              refine HRD.out.mono ?_
              rintro e w6 ⟨rfl, hb6⟩
              obtain ⟨cs, hcs1, hcs2, hcs3⟩ := HR2.out.2.2.below hb6
              have t0 : w6.cell? ⟨bw, j * 4, none⟩ = some (.int .i64 (kk : Int)) := by rw [← hkk]; exact (hcs1.cell _).trans (hcs3 j (by omega)).1
              have t1 : w6.cell? ⟨bw, j * 4 + 1, none⟩ = some (.int .u32 (ii : Int)) := by rw [← hii]; exact (hcs1.cell _).trans (hcs3 j (by omega)).2.1
              have t2 : w6.cell? ⟨bw, j * 4 + 2, none⟩ = some (.int .u64 (tt : Int)) := by rw [← htt]; exact (hcs1.cell _).trans (hcs3 j (by omega)).2.2.1
              have t3 : w6.cell? ⟨bw, j * 4 + 3, none⟩ = some (.string bb) := by rw [← hbb]; exact (hcs1.cell _).trans (hcs3 j (by omega)).2.2.2
              have z0 : ((tt : Int) != 0) = true := by simp; omega
              have z1 : ((tt : Int) == 0) = false := by simp; omega
              have hbl := hcs1.lt
              have H6 := Lib.hid (And.intro (HR2.out.1.below hb6) (And.intro (bl_tr HR2.out.2.1 hb6) (HR2.out.2.2.below hb6)))
              clear hb6 hcs1 hcs2 hcs3 hz hkk hii htt hbb
              go_wp2_with fail
              go_quiet (fail)
              go_wp2
              exact ⟨⟨j + 1, by omega, by omega, by go_num, (H6.out.1.alloc _).below (bl_dN (bl_re _) _), bl_dN (bl_al H6.out.2.1 _) _, (H6.out.2.2.below (bl_al (bl_re _) _)).below (bl_dN (bl_re _) _)⟩, by simp [intOf]; omega⟩
          · obtain rfl : j = 10 := by omega
            have e0 : ¬ ((10 : Nat) : Int) < 10 := by omega
            go_wp2
            exact ⟨⟨k + 1, D2, f2, by omega, by omega, by go_num, HR2.out.1, HL2.out.2.2.2.2.1, by have := HL2.out.2.2.2.2.2.1; omega, by have := HL2.out.2.2.2.2.2.2; omega, HR2.out.2.1, HR2.out.2.2, HL2.out.2.2.2.1⟩, by simp [intOf]; omega⟩
      | false =>
        have hbsz := HR.out.2.2.2.2.1.size
        have hpw := pwrite_no xk q xt s g (w3.alloc (.cells #[.int .i64 xk, .int .u32 (q : Int), .int .u64 (xt : Int), .string s] 60)) HO.out.1 (by omega) HO.out.2.2.1 (by have := HSZ.out; unfold maxLen; omega) hr
        refine hpw.mono ?_
        rintro e w4 ⟨rfl, hb4⟩
        have hch : Below wr.heap.size wr w4 := bl_tr (bl_al HB3.out _) hb4
        have hL2 : Held (From w.heap.size [bw]) w4 g D ∧ Below w.heap.size w w4 ∧ WantAt w4 bw f ∧ Keeps D f ∧ D.S.length = 40 ∧ D.U.length ≤ 4 * k + 4 ∧ D.N ≤ 4 * k + 4 := by
          have h1 := HR.out.2.2.1
          have h2 := HR.out.2.2.2.1
          exact ⟨HR.out.1.below hch, bl_tr HR.out.2.2.2.2.1 hch, HR.out.2.2.2.2.2.1.below hch, HR.out.2.2.2.2.2.2, HR.out.2.1, by omega, by omega⟩
        clear hpw hb4 hch hbsz hr
        go_wp2_with fail
        have HL2 : Hid (Held (From w.heap.size [bw]) w4 g D ∧ Below w.heap.size w w4 ∧ WantAt w4 bw f ∧ Keeps D f ∧ D.S.length = 40 ∧ D.U.length ≤ 4 * k + 4 ∧ D.N ≤ 4 * k + 4) := Lib.hid hL2
        clear hL2
        obtain ⟨D2, hD2⟩ : ∃ D2, D = D2 := ⟨_, rfl⟩
        obtain ⟨f2, hf2⟩ : ∃ f2, f = f2 := ⟨_, rfl⟩
        rw [hD2, hf2] at HL2
        clear hD2 hf2
        obtain ⟨wo, rfl⟩ : ∃ wo : World, wo = wr := ⟨_, rfl⟩
        go_loopw [9] (fun i wr => ∃ j : Nat, 2 ≤ j ∧ j ≤ 10 ∧ i = .int .u32 j ∧ Held (From w.heap.size [bw]) wr g D2 ∧ Below w.heap.size w wr ∧ WantAt wr bw f2) (fun i _ => 10 - (intOf i).toNat)
        case atStart => exact ⟨2, by omega, by omega, rfl, HL2.out.1, HL2.out.2.1, HL2.out.2.2.1⟩
        case round =>
          obtain ⟨j, hj2, hj10, rfl, hrest2⟩ := hrel
          have HR2 := Lib.hid hrest2
          clear hrest2
          by_cases hjl : j < 10
          · have e0 : (j : Int) < 10 := by omega
            have e00 : (0 : Int) ≤ (j : Int) := Int.natCast_nonneg _
            have hr2 := pread_ok (From w.heap.size [bw]) g D2 j wr HR2.out.1 (by omega) (by have := HL2.out.2.2.2.2.1; omega)
            rcases HL2.out.2.2.2.1 j hj2 (by omega) with ⟨hz, hp⟩ | ⟨hz, hp⟩
            · rw [hp] at hr2
              unfold pageZ at hr2
              have HRD := Lib.hid hr2
              clear hr2 hp
              go_wp2_with fail
              refine HRD.out.mono ?_
              rintro e w6 ⟨rfl, hb6⟩
              obtain ⟨cs, hcs1, hcs2, hcs3⟩ := HR2.out.2.2.below hb6
              have t2 : w6.cell? ⟨bw, j * 4 + 2, none⟩ = some (.int .u64 ((f2 j).t : Int)) := (hcs1.cell _).trans (hcs3 j (by omega)).2.2.1
              rw [hz] at t2
              have hbl := hcs1.lt
              have H6 := Lib.hid (And.intro (HR2.out.1.below hb6) (And.intro (bl_tr HR2.out.2.1 hb6) (HR2.out.2.2.below hb6)))
              clear hb6 hcs1 hcs2 hcs3 hz
              go_wp2_with fail
              go_quiet (fail)
              go_wp2
              exact ⟨⟨j + 1, by omega, by omega, by go_num, (H6.out.1.alloc _).below (bl_dN (bl_re _) _), bl_dN (bl_al H6.out.2.1 _) _, (H6.out.2.2.below (bl_al (bl_re _) _)).below (bl_dN (bl_re _) _)⟩, by simp [intOf]; omega⟩
            · rw [hp] at hr2
              obtain ⟨kk, hkk⟩ : ∃ kk, (f2 j).k = kk := ⟨_, rfl⟩
              obtain ⟨ii, hii⟩ : ∃ ii, (f2 j).i = ii := ⟨_, rfl⟩
              obtain ⟨tt, htt⟩ : ∃ tt, (f2 j).t = tt := ⟨_, rfl⟩
              obtain ⟨bb, hbb⟩ : ∃ bb, (f2 j).b = bb := ⟨_, rfl⟩
              rw [hkk, hii, htt, hbb] at hr2
              rw [htt] at hz
              have HRD := Lib.hid hr2
              clear hr2 hp
              go_wp2_with fail
              refine HRD.out.mono ?_
              rintro e w6 ⟨rfl, hb6⟩
              obtain ⟨cs, hcs1, hcs2, hcs3⟩ := HR2.out.2.2.below hb6
              have t0 : w6.cell? ⟨bw, j * 4, none⟩ = some (.int .i64 (kk : Int)) := by rw [← hkk]; exact (hcs1.cell _).trans (hcs3 j (by omega)).1
              have t1 : w6.cell? ⟨bw, j * 4 + 1, none⟩ = some (.int .u32 (ii : Int)) := by rw [← hii]; exact (hcs1.cell _).trans (hcs3 j (by omega)).2.1
              have t2 : w6.cell? ⟨bw, j * 4 + 2, none⟩ = some (.int .u64 (tt : Int)) := by rw [← htt]; exact (hcs1.cell _).trans (hcs3 j (by omega)).2.2.1
              have t3 : w6.cell? ⟨bw, j * 4 + 3, none⟩ = some (.string bb) := by rw [← hbb]; exact (hcs1.cell _).trans (hcs3 j (by omega)).2.2.2
              have z0 : ((tt : Int) != 0) = true := by simp; omega
              have z1 : ((tt : Int) == 0) = false := by simp; omega
              have hbl := hcs1.lt
              have H6 := Lib.hid (And.intro (HR2.out.1.below hb6) (And.intro (bl_tr HR2.out.2.1 hb6) (HR2.out.2.2.below hb6)))
              clear hb6 hcs1 hcs2 hcs3 hz hkk hii htt hbb
              go_wp2_with fail
              go_quiet (fail)
              go_wp2
              exact ⟨⟨j + 1, by omega, by omega, by go_num, (H6.out.1.alloc _).below (bl_dN (bl_re _) _), bl_dN (bl_al H6.out.2.1 _) _, (H6.out.2.2.below (bl_al (bl_re _) _)).below (bl_dN (bl_re _) _)⟩, by simp [intOf]; omega⟩
          · obtain rfl : j = 10 := by omega
            have e0 : ¬ ((10 : Nat) : Int) < 10 := by omega
            go_wp2
            exact ⟨⟨k + 1, D2, f2, by omega, by omega, by go_num, HR2.out.1, HL2.out.2.2.2.2.1, by have := HL2.out.2.2.2.2.2.1; omega, by have := HL2.out.2.2.2.2.2.2; omega, HR2.out.2.1, HR2.out.2.2, HL2.out.2.2.2.1⟩, by simp [intOf]; omega⟩
    · have hex : ¬ (k : Int) < (n1 : Int) ∨ (k : Int) < (n1 : Int) ∧ ¬ (k : Int) < 20 := by omega
      have HB := Lib.hid HR.out.2.2.2.2.1
      rcases hex with e1 | ⟨e1, e2⟩
      all_goals
        go_wp2
        go_ret
        exact ⟨rfl, HB.out⟩
end Go.Proofs.Ytmbjbckjfkijmaa
