/- The law's helper did: an act on both disks: the same is told. -/
import Derived.Test.YtmbjbckjfkijmaaRDskE
import Derived.Test.YtmbjbckjfkijmaaRDskF
import Derived.Test.YtmbjbckjfkijmaaArgs
import Derived.Test.YtmbjbckjfkijmaaDiskU
namespace Go.Proofs.Ytmbjbckjfkijmaa
open Go.RowKit Go.Shelf
attribute [local go_sem] Oper.semAt_some
attribute [local go_sem ↓] Go.wp_at_zero Go.wp_at_succ

/-- The two disks and what may have been written since. -/
def Run (F : Nat → Prop) (W w : World) (g : Nat) (D : Dk) (h : Nat) (E : Dk) : Prop := Two F w g D h E ∧ Chg (fun k => ¬ F k) W w
theorem Run.below {F : Nat → Prop} {W w w' : World} {g h : Nat} {D E : Dk} {B : Nat} (r : Run F W w g D h E) (hb : Below B w w') (hB : B = w.heap.size) : Run F W w' g D h E := by
  subst hB
  exact ⟨r.1.below hb, r.2.trans (Chg.ofNew hb)⟩
theorem Run.left {F : Nat → Prop} {W w : World} {g h : Nat} {D E : Dk} (r : Run F W w g D h E) : ∃ S : Nat → Prop, (∀ k, w.heap.size ≤ k → S k) ∧ (∀ k, S k → ¬ F k) ∧ Held S w g D ∧ ∀ w' D', Held S w' g D' → Chg S w w' → Run F W w' g D' h E := by
  obtain ⟨S, a, b, c, d⟩ := r.1.left
  exact ⟨S, a, b, c, fun w' D' hh hc => ⟨(d w' D' hh hc).1, r.2.trans (d w' D' hh hc).2⟩⟩
theorem Run.right {F : Nat → Prop} {W w : World} {g h : Nat} {D E : Dk} (r : Run F W w g D h E) : ∃ S : Nat → Prop, (∀ k, w.heap.size ≤ k → S k) ∧ (∀ k, S k → ¬ F k) ∧ RHeld S w h E ∧ ∀ w' E', RHeld S w' h E' → Chg S w w' → Run F W w' g D h E' := by
  obtain ⟨S, a, b, c, d⟩ := r.1.right
  exact ⟨S, a, b, c, fun w' D' hh hc => ⟨(d w' D' hh hc).1, r.2.trans (d w' D' hh hc).2⟩⟩
theorem Run.cell {F : Nat → Prop} {W w : World} {g h : Nat} {D E : Dk} (r : Run F W w g D h E) {b : Nat} (hb : F b) (hl : b < W.heap.size) (i : Nat) (v : Value) (hv : W.cell? ⟨b, i, none⟩ = some v) : w.cell? ⟨b, i, none⟩ = some v :=
  (World.cell?_of_block (a := ⟨b, i, none⟩) (r.2.block b hl (fun x => x hb))).trans hv
theorem Run.ints {F : Nat → Prop} {W w : World} {g h : Nat} {D E : Dk} (r : Run F W w g D h E) {so : Option Addr} {l : List Int} (hi : IntsAt W so l) (hF : ∀ a, so = some a → 0 < l.length → F a.block) : IntsAt w so l := fun k x hk => by
  obtain ⟨a, h1, h2, h3⟩ := hi k x hk
  have hl := (List.getElem?_eq_some_iff.1 hk).1
  exact ⟨a, h1, Nat.lt_of_lt_of_le h2 r.2.size, (World.cell?_of_block (a := a.add k) (by rw [ad_block]; exact r.2.block _ h2 (fun x => x (hF a h1 (by omega))))).trans h3⟩

/-- What an act makes of a disk's sizes. -/
def Near (D D' : Dk) : Prop := D'.S.length = D.S.length ∧ D'.U.length ≤ D.U.length + 1 ∧ D'.N ≤ D.N + 1
theorem near_write (D : Dk) (c : Int) (s : List UInt8) : Near D (D.write c s).2 := by
  unfold Dk.write Near
  split
  · simp
  · split <;> simp
theorem near_crash (D : Dk) (l : List Int) : Near D (D.crash l).2 := by
  unfold Dk.crash Near
  split
  · simp
  · simp [puts_length]
theorem near_sync (D : Dk) (ks : List Nat) : Near D { S := Dk.puts D.S D.U ks, U := [], N := D.N + 1 } := by
  unfold Near
  simp [puts_length]

set_option maxRecDepth 100000 in
set_option maxHeartbeats 4000000 in
theorem did_any (F : Nat → Prop) (g h : Nat) (D : Dk) (x : ActV) (w : World) (t : Two F w g D h D) (hx : x.ok w) (hF : ∀ a, x.so = some a → 0 < x.l.length → F a.block) (hU : D.U.length < 1000000) (hN : D.N < 1000000) :
    Calls Try.prog 26 #[.pointer (some ⟨g, 0, none⟩), .pointer (some ⟨h, 0, none⟩), .agg #[.int .i64 x.d, .int .i64 x.c, .string x.s, .slice x.so x.n x.cap]] w fun e w' => e = .returned (.bool true) ∧
      ∃ D', Two F w' g D' h D' ∧ Chg (fun k => ¬ F k) w w' ∧ Near D D' := by
  obtain ⟨xd, xc, xs, xo, xn, xp, xl⟩ := x
  obtain ⟨o1, o2, o3, o4, ⟨o5, o6, o7⟩, o8, o9⟩ := hx
  simp only at o1 o2 o3 o4 o5 o6 o7 o8 o9 hF ⊢
  obtain ⟨m, hm, hm2⟩ : ∃ m : Nat, IntKind.u64.wrap xd = m ∧ m < 18446744073709551616 := by
    rw [IntKind.wrap_u64]
    exact ⟨(xd % 18446744073709551616).toNat, by omega, by omega⟩
  obtain ⟨F1, hF1⟩ : ∃ F1 : Nat → Prop, F1 = fun k => F k ∨ (w.heap.size ≤ k ∧ k < (w.alloc (.cells #[.int .i64 xd, .int .i64 xc, .string xs, .slice xo xn xp] 31)).heap.size) := ⟨_, rfl⟩
  have t1 : Run F1 (w.alloc (.cells #[.int .i64 xd, .int .i64 xc, .string xs, .slice xo xn xp] 31)) (w.alloc (.cells #[.int .i64 xd, .int .i64 xc, .string xs, .slice xo xn xp] 31)) g D h D := ⟨by rw [hF1]; exact t.grow (bl_al (bl_re w) _), Chg.refl _ _⟩
  have b1 := Blk.new w 31 #[.int .i64 xd, .int .i64 xc, .string xs, .slice xo xn xp]
  have f1 : F1 w.heap.size := by rw [hF1]; exact .inr ⟨Nat.le_refl _, by simp⟩
  have f2 : ∀ k, F k → F1 k := fun k hk => by rw [hF1]; exact .inl hk
  have y9 : IntsAt (w.alloc (.cells #[.int .i64 xd, .int .i64 xc, .string xs, .slice xo xn xp] 31)) xo (cut80 xl) := fun k x hk => by
    obtain ⟨a, h1, h2, h3⟩ := o9 k x (by unfold cut80 at hk; rw [List.getElem?_take] at hk; split at hk; exact hk; cases hk)
    exact ⟨a, h1, by simp; omega, (World.cell?_alloc_lt _ _ _ (by rw [ad_block]; exact h2)).trans h3⟩
  have c0 : Chg (fun k => ¬ F k) w (w.alloc (.cells #[.int .i64 xd, .int .i64 xc, .string xs, .slice xo xn xp] 31)) := Chg.ofNew (bl_al (bl_re w) _)
  have cl : (cut80 xl).length = min xn 80 := by unfold cut80; rw [List.length_take, o4]; omega
  have cF : ∀ a, xo = some a → 0 < (cut80 xl).length → F1 a.block := fun a ha hl => f2 _ (hF a ha (by unfold cut80 at hl; rw [List.length_take] at hl; omega))
  have HG := Lib.hid (And.intro f1 (And.intro f2 (And.intro c0 b1)))
  have HT1 := Lib.hid t1
  have HCI := Lib.hid (And.intro y9 (And.intro cF cl))
  have hsz : (text70 xs).size ≤ maxLen := by have := text70_size xs; unfold maxLen; omega
  have HTX := Lib.hid (fun W => text_any xs W o3)
  have HCT := Lib.hid (fun W => cut_any xo xn xp W o5 o6 o7)
  obtain ⟨⟨we, D1⟩, hwe⟩ : ∃ r, D.write xc (text70 xs).data.toList = r := ⟨_, rfl⟩
  have n1 := near_write D xc (text70 xs).data.toList
  have hw1 := fun S W (hh : Held S W g D) (hS : ∀ k, W.heap.size ≤ k → S k) => write_any S g D xc (text70 xs) W hh o2 hsz hU hN hS
  have hw2 := fun S W (hh : RHeld S W h D) (hS : ∀ k, W.heap.size ≤ k → S k) => rwrite_any S h D xc (text70 xs) W hh o2 hsz hU hN hS
  rw [hwe] at hw1 hw2 n1
  obtain ⟨⟨ce, D2⟩, hce⟩ : ∃ r, D.crash (cut80 xl) = r := ⟨_, rfl⟩
  have n2 := near_crash D (cut80 xl)
  have hcr1 := fun S W (hh : Held S W g D) (hi : IntsAt W xo (cut80 xl)) (hk : ∀ a, xo = some a → 0 < (cut80 xl).length → ¬ S a.block) => crash_any S g D xo xp (min xn 80) (cut80 xl) W hh cl (by rw [cl]; unfold maxLen; omega) (fun y hy => o8 y (List.mem_of_mem_take hy)) hi hk
  have hcr2 := fun S W (hh : RHeld S W h D) (hi : IntsAt W xo (cut80 xl)) (hk : ∀ a, xo = some a → 0 < (cut80 xl).length → ¬ S a.block) => rcrash_any S h D xo xp (min xn 80) (cut80 xl) W hh cl hi hk
  rw [hce] at hcr1 hcr2 n2
  obtain ⟨⟨rs, re⟩, hre⟩ : ∃ r, D.read xc = r := ⟨_, rfl⟩
  have hr1 := fun S W (hh : Held S W g D) => read_any S g D xc W hh o2
  have hr2 := fun S W (hh : RHeld S W h D) => rread_any S h D xc W hh
  rw [hre] at hr1 hr2
  have hs1 := fun S W (hh : Held S W g D) => sync_any S g D W hh hN
  have hs2 := fun S W (hh : RHeld S W h D) => rsync_any S h D W hh hN
  have HW1 := Lib.hid hw1
  have HW2 := Lib.hid hw2
  have HC1 := Lib.hid hcr1
  have HC2 := Lib.hid hcr2
  have HR1 := Lib.hid hr1
  have HR2 := Lib.hid hr2
  have HS1 := Lib.hid hs1
  have HS2 := Lib.hid hs2
  have HN := Lib.hid (And.intro n1 (And.intro n2 (near_sync D (List.replicate D.U.length 64))))
  obtain ⟨zs, hzs⟩ : ∃ zs, mk rs = zs := ⟨_, rfl⟩
  simp only [hzs] at HR1 HR2
  clear t t1 b1 f1 f2 y9 c0 cl cF hsz hw1 hw2 hcr1 hcr2 hr1 hr2 hs1 hs2 hwe hce hre n1 n2 o1 o2 o3 o4 o5 o6 o7 o8 o9 hF hF1 hzs
  go_enter Try.func26, Try.ntmps26
  go_wp2_with fail
  rotate_left 3
  · obtain ⟨S, hS1, hS2, hh, hback⟩ := HT1.out.right
    refine (HS2.out S _ hh).mono ?_
    rintro e w2 ⟨rfl, hh2, hc2⟩
    have T2 := Lib.hid (hback _ _ hh2 hc2)
    clear hS1 hS2 hh hback hh2 hc2
    go_wp2_with fail
    obtain ⟨S, hS1, hS2, hh, hback⟩ := T2.out.left
    refine (HS1.out S _ hh).mono ?_
    rintro e w3 ⟨rfl, hh3, hc3⟩
    have T3 := Lib.hid (hback _ _ hh3 hc3)
    clear hS1 hS2 hh hback hh3 hc3
    go_wp2
    go_ret
    exact ⟨rfl, _, T3.out.1.less HG.out.2.1, HG.out.2.2.1.trans (T3.out.2.mono fun k _ hk x => hk (HG.out.2.1 k x)), HN.out.2.2⟩
  · obtain ⟨W1, hW1⟩ : ∃ W1, w.alloc (.cells #[.int .i64 xd, .int .i64 xc, .string xs, .slice xo xn xp] 31) = W1 := ⟨_, rfl⟩
    rw [hW1] at HT1 HG HCI ⊢
    clear hW1
    have q1 : W1.cell? ⟨w.heap.size, 3, none⟩ = some (.slice xo xn xp) := HG.out.2.2.2.cell 3
    have Q1 := Lib.hid q1
    have hlt1 : w.heap.size < W1.heap.size := HG.out.2.2.2.lt
    go_region_held3 (fun w' => w'.cell? ⟨w.heap.size, 3, none⟩ = some (.slice xo xn xp))
      (first | go_keep | exact T8.out.cell HG.out.1 hlt1 3 _ Q1.out | exact T7.out.cell HG.out.1 hlt1 3 _ Q1.out | exact T6.out.cell HG.out.1 hlt1 3 _ Q1.out | exact T5.out.cell HG.out.1 hlt1 3 _ Q1.out)
      (first
        | (go_at_call 22; have T6' := T6; refine (HCT.out _).mono ?_; rintro e w7 ⟨rfl, hb7⟩; have T7 := Lib.hid (T6'.out.below hb7 rfl); clear hb7)
        | (go_at_call 22; refine (HCT.out _).mono ?_; rintro e w5 ⟨rfl, hb5⟩; have T5 := Lib.hid ((HT1.out.below (bl_dr (bl_re W1)) rfl).below hb5 rfl); clear hb5)
        | (go_at_call 21; obtain ⟨S, hS1, hS2, hh, hback⟩ := T5.out.left; refine (HC1.out S _ hh (T5.out.ints HCI.out.1 HCI.out.2.1) (fun a ha hl hs => hS2 _ hs (HCI.out.2.1 a ha hl))).mono ?_; rintro e w6 ⟨rfl, hh6, hc6⟩; have T6 := Lib.hid (hback _ _ hh6 hc6); clear hS1 hS2 hh hback hh6 hc6)
        | (go_at_call 48; obtain ⟨S, hS1, hS2, hh, hback⟩ := T7.out.right; refine (HC2.out S _ hh (T7.out.ints HCI.out.1 HCI.out.2.1) (fun a ha hl hs => hS2 _ hs (HCI.out.2.1 a ha hl))).mono ?_; rintro e w8 ⟨rfl, hh8, hc8⟩; have T8 := Lib.hid (hback _ _ hh8 hc8); clear hS1 hS2 hh hback hh8 hc8))
    all_goals
      go_wp2
      go_ret
      exact ⟨rfl, _, T8.out.1.less HG.out.2.1, HG.out.2.2.1.trans (T8.out.2.mono fun k _ hk x => hk (HG.out.2.1 k x)), HN.out.2.1⟩
  · obtain ⟨S, hS1, hS2, hh, hback⟩ := HT1.out.left
    refine (HR1.out S _ hh).mono ?_
    rintro e w2 ⟨rfl, hb2⟩
    have T2 := Lib.hid (HT1.out.below hb2 rfl)
    clear hS1 hS2 hh hback
    have k1 : w2.cell? ⟨w.heap.size, 1, none⟩ = some (.int .i64 xc) := T2.out.cell HG.out.1 HG.out.2.2.2.lt 1 _ (HG.out.2.2.2.cell 1)
    clear hb2
    go_wp2_with fail
    obtain ⟨S, hS1, hS2, hh, hback⟩ := T2.out.right
    refine (HR2.out S _ hh).mono ?_
    rintro e w3 ⟨rfl, hb3⟩
    have T3 := Lib.hid (T2.out.below hb3 rfl)
    clear hS1 hS2 hh hback hb3
    go_wp2
    go_ret
    exact ⟨rfl, _, T3.out.1.less HG.out.2.1, HG.out.2.2.1.trans (T3.out.2.mono fun k _ hk x => hk (HG.out.2.1 k x)), rfl, by omega, by omega⟩
  all_goals
    obtain ⟨W1, hW1⟩ : ∃ W1, w.alloc (.cells #[.int .i64 xd, .int .i64 xc, .string xs, .slice xo xn xp] 31) = W1 := ⟨_, rfl⟩
    rw [hW1] at HT1 HG ⊢
    clear hW1
    have q1 : W1.cell? ⟨w.heap.size, 1, none⟩ = some (.int .i64 xc) := HG.out.2.2.2.cell 1
    have q2 : W1.cell? ⟨w.heap.size, 2, none⟩ = some (.string xs) := HG.out.2.2.2.cell 2
    have Q1 := Lib.hid (And.intro q1 q2)
    have hlt1 : w.heap.size < W1.heap.size := HG.out.2.2.2.lt
    go_region_held3 (fun w' => w'.cell? ⟨w.heap.size, 1, none⟩ = some (.int .i64 xc) ∧ w'.cell? ⟨w.heap.size, 2, none⟩ = some (.string xs))
      (first | go_keep | exact ⟨T8.out.cell HG.out.1 hlt1 1 _ Q1.out.1, T8.out.cell HG.out.1 hlt1 2 _ Q1.out.2⟩ | exact ⟨T7.out.cell HG.out.1 hlt1 1 _ Q1.out.1, T7.out.cell HG.out.1 hlt1 2 _ Q1.out.2⟩ | exact ⟨T6.out.cell HG.out.1 hlt1 1 _ Q1.out.1, T6.out.cell HG.out.1 hlt1 2 _ Q1.out.2⟩ | exact ⟨T5.out.cell HG.out.1 hlt1 1 _ Q1.out.1, T5.out.cell HG.out.1 hlt1 2 _ Q1.out.2⟩)
      (first
        | (go_at_call 18; have T6' := T6; refine (HTX.out _).mono ?_; rintro e w7 ⟨rfl, hb7⟩; have T7 := Lib.hid (T6'.out.below hb7 rfl); clear hb7)
        | (go_at_call 18; refine (HTX.out _).mono ?_; rintro e w5 ⟨rfl, hb5⟩; have T5 := Lib.hid ((HT1.out.below (bl_dr (bl_re W1)) rfl).below hb5 rfl); clear hb5)
        | (go_at_call 17; obtain ⟨S, hS1, hS2, hh, hback⟩ := T5.out.left; refine (HW1.out S _ hh hS1).mono ?_; rintro e w6 ⟨rfl, hh6, hc6⟩; have T6 := Lib.hid (hback _ _ hh6 hc6); clear hS1 hS2 hh hback hh6 hc6)
        | (go_at_call 46; obtain ⟨S, hS1, hS2, hh, hback⟩ := T7.out.right; refine (HW2.out S _ hh hS1).mono ?_; rintro e w8 ⟨rfl, hh8, hc8⟩; have T8 := Lib.hid (hback _ _ hh8 hc8); clear hS1 hS2 hh hback hh8 hc8))
    all_goals
      go_wp2
      go_ret
      exact ⟨rfl, _, T8.out.1.less HG.out.2.1, HG.out.2.2.1.trans (T8.out.2.mono fun k _ hk x => hk (HG.out.2.1 k x)), HN.out.1⟩
end Go.Proofs.Ytmbjbckjfkijmaa
