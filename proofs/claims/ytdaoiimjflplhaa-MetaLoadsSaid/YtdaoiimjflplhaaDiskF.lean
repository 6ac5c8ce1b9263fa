/- package disk: Crash. -/
import Derived.Test.YtdaoiimjflplhaaDiskE
import Derived.Test.YtdaoiimjflplhaaRound
namespace Go.Proofs.Ytdaoiimjflplhaa
open Go.RowKit Go.Shelf
attribute [local go_sem] Oper.semAt_some
attribute [-go_sem] Instr.loadAt
attribute [local go_sem ↓] Go.wp_at_zero Go.wp_at_succ
attribute [local go_sem] loadAt_dp loadAt_i loadAt_is loadAt_ws loadAt_ss

theorem ad_block (a : Addr) (i : Nat) : (a.add i).block = a.block := by unfold Addr.add; split <;> rfl

set_option maxRecDepth 100000 in
set_option maxHeartbeats 4000000 in
theorem crash_no (S : Nat → Prop) (g : Nat) (D : Dk) (sk : Option Addr) (ck : Nat) (l : List Int) (w : World) (h : Held S w g D) (hl : l.length ≤ maxLen) (hin : ∀ x ∈ l, -9223372036854775808 ≤ x ∧ x ≤ 9223372036854775807) (hc : IntsAt w sk l)
    (hno : D.U.length < l.length ∨ (l.all fun x => decide (0 ≤ x) && decide (x ≤ 64)) = false) :
    Calls Try.prog 28 #[.pointer (some ⟨g, 0, none⟩), .slice sk l.length ck] w fun e w' => e = .returned (.int .i64 2) ∧ Below w.heap.size w w' := by
  obtain ⟨kb, so, cap, hH⟩ := h
  have hlt := hH.lt
  have q1 : w.cell? ⟨g, 1, none⟩ = some (.slice so D.U.length cap) := hH.2.1.cell 1
  have hfew := hH.ok.few
  unfold maxLen at hl
  have hw : ∀ W, Below w.heap.size w W → Calls Try.prog 42 #[.int .i64 64, .slice sk l.length ck] W fun e w' => e = .returned (.bool (l.all fun x => decide (0 ≤ x) && decide (x ≤ 64))) ∧ w' = W := fun W hb => by
    have := within_any 64 sk ck l W hl hin (fun k x hk => by
      obtain ⟨a, h1, h2, h3⟩ := hc k x hk
      exact ⟨a, h1, Nat.lt_of_lt_of_le h2 hb.size, (hb.cell (by rw [ad_block]; exact h2)).trans h3⟩)
    exact this
  have q2 : ((w.alloc (.cells #[.pointer (some ⟨g, 0, none⟩)] 36)).alloc (.cells #[.slice sk l.length ck] 51)).cell? ⟨g, 1, none⟩ = some (.slice so D.U.length cap) := by
    rw [World.cell?_alloc_lt _ _ _ (by simp; omega), World.cell?_alloc_lt _ _ _ hlt]; exact q1
  have hb0 : Below w.heap.size w ((w.alloc (.cells #[.pointer (some ⟨g, 0, none⟩)] 36)).alloc (.cells #[.slice sk l.length ck] 51)) := bl_al (bl_al (bl_re w) _) _
  have HW := Lib.hid hw
  have HC := Lib.hid hc
  have HI := Lib.hid hin
  have HB := Lib.hid hb0
  clear hw hc hin hH hb0 q1
  obtain ⟨b1, hb1⟩ : ∃ b, decide (D.U.length < l.length) = b := ⟨_, rfl⟩
  obtain ⟨b2, hb2⟩ : ∃ b, (l.all fun x => decide (0 ≤ x) && decide (x ≤ 64)) = b := ⟨_, rfl⟩
  rw [hb2] at HW hno
  have hbb : b1 = true ∨ b1 = false ∧ b2 = false := by
    cases b1 with
    | true => exact .inl rfl
    | false =>
      have := of_decide_eq_false hb1
      exact .inr ⟨rfl, hno.resolve_left (by omega)⟩
  clear hno hb2
  rcases hbb with rfl | ⟨rfl, rfl⟩
  all_goals
    go_enter Try.func28, Try.ntmps28
    go_wp2_with fail
    go_quiet ((go_at_call 42; exact Calls.quiet_of_same (HW.out _ (bl_dN HB.out _))))
    go_wp2
    go_ret
    exact ⟨rfl, bl_dN HB.out _⟩

/-- What of a list of ints is kept. -/
def kept (l : List Int) : List Nat := l.map Int.toNat

set_option maxRecDepth 100000 in
set_option maxHeartbeats 4000000 in
theorem crash_ok (S : Nat → Prop) (g : Nat) (D : Dk) (sk : Option Addr) (ck : Nat) (l : List Int) (w : World) (h : Held S w g D) (hin : ∀ x ∈ l, 0 ≤ x ∧ x ≤ 64) (hc : IntsAt w sk l) (hsk : ∀ a, sk = some a → 0 < l.length → ¬ S a.block)
    (hle : l.length ≤ D.U.length) :
    Calls Try.prog 28 #[.pointer (some ⟨g, 0, none⟩), .slice sk l.length ck] w fun e w' => e = .returned (.int .i64 0) ∧ Held S w' g { D with S := Dk.puts D.S D.U (kept l), U := [] } ∧ Chg S w w' := by
  obtain ⟨kb, so, cap, hH⟩ := h
  have hlt := hH.lt
  have q1 : w.cell? ⟨g, 1, none⟩ = some (.slice so D.U.length cap) := hH.2.1.cell 1
  have hfew := hH.ok.few
  have hU := hH.ok.uns
  have hw : ∀ W, Below w.heap.size w W → Calls Try.prog 42 #[.int .i64 64, .slice sk l.length ck] W fun e w' => e = .returned (.bool true) ∧ w' = W := fun W hb => by
    have := within_any 64 sk ck l W (by unfold maxLen; omega) (fun x hx => by have := hin x hx; omega) (fun k x hk => by
      obtain ⟨a, h1, h2, h3⟩ := hc k x hk
      exact ⟨a, h1, Nat.lt_of_lt_of_le h2 hb.size, (hb.cell (by rw [ad_block]; exact h2)).trans h3⟩)
    have hall : (l.all fun x => decide (0 ≤ x) && decide (x ≤ ((64 : Nat) : Int))) = true := List.all_eq_true.2 fun x hx => by have := hin x hx; simp; omega
    rw [hall] at this
    exact this
  have q2 : ((w.alloc (.cells #[.pointer (some ⟨g, 0, none⟩)] 36)).alloc (.cells #[.slice sk l.length ck] 51)).cell? ⟨g, 1, none⟩ = some (.slice so D.U.length cap) := by
    rw [World.cell?_alloc_lt _ _ _ (by simp; omega), World.cell?_alloc_lt _ _ _ hlt]; exact q1
  have hb0 : Below w.heap.size w ((w.alloc (.cells #[.pointer (some ⟨g, 0, none⟩)] 36)).alloc (.cells #[.slice sk l.length ck] 51)) := bl_al (bl_al (bl_re w) _) _
  obtain ⟨S', hS'⟩ : ∃ S' : Nat → Prop, S' = fun k => S k ∧ k < w.heap.size := ⟨_, rfl⟩
  have hH' : HeldAt S' w g kb so cap D := hH.sub (fun k hk hs => by rw [hS']; exact ⟨hs, hk⟩)
  have hSb : ∀ k, S' k → k < w.heap.size := fun k hk => by rw [hS'] at hk; exact hk.2
  have HW := Lib.hid hw
  have HC := Lib.hid hc
  have HI := Lib.hid (And.intro hin hsk)
  have HB := Lib.hid hb0
  have HH := Lib.hid (And.intro hH (And.intro hH' (And.intro hSb (And.intro hU hS'))))
  have hb1 : decide (D.U.length < l.length) = false := decide_eq_false (by omega)
  clear hw hc hin hH hb0 q1 hsk hH' hSb hU hS'
  refine (callsIn_wide (n := 9)).1 (callsIn_of_wp_marks Try.func28 rfl trivial ?_ rfl)
  simp only [Try.ntmps28, List.size_toArray, List.length_cons, List.length_nil, Nat.reduceAdd, Nat.reduceSub, Array.replicate_succ, Array.replicate_zero, List.push_toArray, List.append_toArray, List.nil_append, List.cons_append]
  gi_wp2_with fail
  refine (wpIn_wide (n := 9)).2 ?_
  go_quiet ((go_at_call 42; exact Calls.quiet_of_same (HW.out _ (bl_dN HB.out _))))
  gi_wp2_with (refine ⟨trivial, ?_⟩; gi_at_call 40; refine (callsIn_wide.2 (pending_any _ _)).mono ?_; rintro e w1 ⟨rfl, rfl⟩)
  obtain ⟨hH, hH', hSb, hU, hS'⟩ := HH.out
  obtain ⟨hin, hsk⟩ := HI.out
  have hb0 := HB.out
  have hc := HC.out
  obtain ⟨Z, hZ, hZs⟩ := zero_write
  obtain ⟨v0, hv0⟩ : ∃ v0, ((w.alloc (.cells #[.pointer (some ⟨g, 0, none⟩)] 36)).alloc (.cells #[.slice sk l.length ck] 51)).drewN nq = v0 := ⟨_, rfl⟩
  have hvz : v0.heap.size = w.heap.size + 2 := by rw [← hv0]; simp
  have a0 : Blk v0 w.heap.size 36 #[.pointer (some ⟨g, 0, none⟩)] := by rw [← hv0]; exact (Blk.new w _ _).alloc _
  have a1 : Blk v0 (w.heap.size + 1) 51 #[.slice sk l.length ck] := by
    rw [← hv0]
    have := Blk.new (w.alloc (.cells #[.pointer (some ⟨g, 0, none⟩)] 36)) 51 #[.slice sk l.length ck]
    rw [World.size_alloc] at this
    exact this
  have hbv : Below w.heap.size w v0 := by rw [← hv0]; exact bl_dN hb0 _
  rw [hv0]
  clear hv0
  obtain ⟨w0, hw0⟩ : ∃ w0, v0.alloc (.cells #[.pointer (some ⟨g, 0, none⟩)] 102) = w0 := ⟨_, rfl⟩
  have hsz : w0.heap.size = w.heap.size + 3 := by rw [← hw0]; simp [hvz]
  have hbw : Below w.heap.size w w0 := by rw [← hw0]; exact bl_al hbv _
  have b0 : Blk w0 w.heap.size 36 #[.pointer (some ⟨g, 0, none⟩)] := by rw [← hw0]; exact a0.alloc _
  have b1 : Blk w0 (w.heap.size + 1) 51 #[.slice sk l.length ck] := by rw [← hw0]; exact a1.alloc _
  have b2 : Blk w0 (w.heap.size + 2) 102 #[.pointer (some ⟨g, 0, none⟩)] := by
    rw [← hw0, ← hvz]
    exact Blk.new v0 _ _
  have h0 : Wrt S' w g kb so cap D w.heap.size w0 := ⟨hH'.below hbw, b0, Chg.ofNew hbw⟩
  rw [hw0]
  clear hw0
  refine rf_pending (Bm := w.heap.size + 2) (g := g) (so := so) (cap := cap) (U := D.U) (w.heap.size + 3) hsz rfl (b2.cell 0) (h0.held.2.1.cell 1) (fun p hp => (hU p hp).1) hfew
    (fun k W => k ≤ D.U.length ∧ Wrt S' w g kb so cap { D with S := D.upto (kept l) k } w.heap.size W ∧ Blk W (w.heap.size + 1) 51 #[.slice sk l.length ck]) ?own ?all ?put ?zero ?round ?fin
  case own => exact fun k W h => h.2.1.held.2.2.2.2.1
  case all => exact fun k W o h => ⟨h.1, h.2.1.alloc o, h.2.2.alloc o⟩
  case put => exact fun k W o h => ⟨h.1, h.2.1.put hSb (by omega) (by omega) o, h.2.2.putObj (by omega) o⟩
  case zero => exact ⟨Nat.zero_le _, h0, b1⟩
  case round =>
    rintro k p W x y z hp ⟨hk, hW, hbk⟩ hx hy hlW
    have hkl := (List.getElem?_eq_some_iff.1 hp).1
    have hpe : D.U[k] = p := (List.getElem?_eq_some_iff.1 hp).2
    obtain ⟨hpl, hp1⟩ := hU p (List.mem_of_getElem? hp)
    have hcl := ucell_length p hpl
    have hc1 := ucell_one p
    obtain ⟨W1, hW1⟩ : ∃ W1, (W.alloc (.cells (ucell p).toArray 76)).putObj (w.heap.size + 3 + 1) z = W1 := ⟨_, rfl⟩
    have w1 := (hW.alloc (.cells (ucell p).toArray 76)).put hSb (l := w.heap.size + 3 + 1) (by omega) (by omega) z
    have k1 := (hbk.alloc (.cells (ucell p).toArray 76)).putObj (l := w.heap.size + 3 + 1) (by omega) z
    have r1 : W1.rangeAt W.heap.size 0 (ucell p) := by
      rw [← hW1]
      exact rangeAt_row ((Blk.new W _ _).putObj (by omega) _) _ (fun j v hv => by simpa using hv)
    have x1 : W1.heap[w.heap.size + 3]? = some x := by rw [← hW1]; exact (World.putObj_heap_other (by omega)).trans ((Below.heap_alloc _ _ _ (by omega)).trans hx)
    have z1 : W1.heap[w.heap.size + 3 + 1]? = some z := by rw [← hW1]; exact World.putObj_heap_same (by simp; omega)
    rw [hW1] at w1 k1
    have q1 : W1.cell? ⟨w.heap.size, 0, none⟩ = some (.pointer (some ⟨g, 0, none⟩)) := w1.box.cell 0
    have q3 : W1.cell? ⟨w.heap.size + 1, 0, none⟩ = some (.slice sk l.length ck) := k1.cell 0
    have l2 : (Instr.loadAt 76 (.pointer (some ⟨W.heap.size, 0, none⟩))).run Try.prog W1.drew = .ok (.agg (ucell p).toArray) W1.drew := by
      obtain ⟨d, du, dd, di⟩ := rowT_of rowT_write hcl
      exact run_loadAt_mid _ _ _ _ _ d ((World.rangeAt_drew _ _ _ _).2 r1) du dd di
    have hm : Try.prog.follows .mixedOrders = true := by kernel_rfl
    have K2 := Lib.hid hZs
    have K3 := Lib.hid hW1
    have K4 := Lib.hid hy
    have K5 := Lib.hid (And.intro hcl hc1)
    by_cases hkk : k < l.length
    · obtain ⟨ad, hsb, hblt, hcell⟩ := hc k l[k] (List.getElem?_eq_getElem hkk)
      obtain ⟨n, hn⟩ : ∃ n : Nat, l[k] = (n : Int) := ⟨l[k].toNat, by have := hin l[k] (List.getElem_mem hkk); omega⟩
      have hn64 : n ≤ 64 := by have := hin l[k] (List.getElem_mem hkk); omega
      have hkn : k < (kept l).length := by simp [kept]; exact hkk
      have hst := upto_snoc D (kept l) k hkl hkn
      have hkk2 : (kept l)[k] = n := by simp [kept, hn]
      rw [hpe, hkk2] at hst
      have hlen := upto_length D (kept l) k
      generalize D.upto (kept l) k = Sk at *
      obtain ⟨s, hs⟩ : ∃ s, Sk[p.1]? = some s := ⟨_, List.getElem?_eq_getElem (by omega)⟩
      have hks := fun W1 h => keeps_held S' g kb so cap { D with S := Sk } p s n W1 hn64 hpl hs h
      have hnext : D.upto (kept l) (k + 1) = Sk.set p.1 (p.2.take n ++ s.drop n) := by rw [hst]; simp [Dk.put, hs]
      rw [hn] at hcell
      have q4 : W1.cell? (ad.add k) = some (.int .i64 n) := by
        rw [World.cell?_of_block (a := (ad.add k)) (w1.chg.block _ (by rw [ad_block]; exact hblt) (fun x => hsk _ hsb (by omega) (by rw [ad_block, hS'] at x; exact x.1)))]
        exact hcell
      have nSb : ¬ S' ad.block := fun x => hsk _ hsb (by omega) (by rw [hS'] at x; exact x.1)
      have hWw : w.heap.size ≤ W.heap.size := by omega
      have hW1s : W.heap.size < W1.heap.size := by rw [← hW1]; simp
      have K6 := Lib.hid (And.intro r1 (And.intro nSb (And.intro hWw hW1s)))
      subst hsb
      have K1 := Lib.hid (And.intro x1 (And.intro z1 (And.intro w1 (And.intro hnext (And.intro k1 (And.intro hks (And.intro hSb hkl)))))))
      clear x1 z1 w1 hnext hcl hc1 hks hW1 hy hx hW hs hst hlen hp hpe hkl hpl hp1 hU hH hH' hSb hS' HH hb0 hbw hbv b0 b1 b2 a0 a1 h0 hZs r1 hlW hk hbk k1 hcell hn hkn hkk2 HB HC HI HW hin hsk hc q2 hn64 hb1 l2 nSb hWw hW1s
      have i1 : (0 : Int) ≤ (k : Int) := Int.natCast_nonneg _
      have i2 : (k : Int) < (l.length : Int) := by omega
      gi_wp2_with (first
        | (with_reducible refine in_alloc 76 hZ ?_)
        | ((with_reducible refine in_store_new 76 (rowT_of rowT_write K5.out.1) (K2.out.trans K5.out.1.symm) K5.out.2 ?_ ?_ ?_); rfl; rfl))
      rw [K3.out]
      refine ⟨(Below.heap_alloc _ _ _ (Array.getElem?_eq_some_iff.1 K4.out).1).trans K4.out, ?_⟩
      gi_wp2_with fail
      obtain ⟨SP, hSP⟩ : ∃ SP : World → Prop, SP = fun w' : World => w'.cell? ⟨w.heap.size, 0, none⟩ = some (.pointer (some ⟨g, 0, none⟩)) ∧ w'.rangeAt W.heap.size 0 (ucell p) ∧
          w'.cell? ⟨w.heap.size + 1, 0, none⟩ = some (.slice (some ad) l.length ck) ∧ w'.cell? (ad.add k) = some (.int .i64 n) := ⟨_, rfl⟩
      have hS0 : SP W1.drew := by rw [hSP]; exact ⟨q1, (World.rangeAt_drew _ _ _ _).2 K6.out.1, q3, q4⟩
      refine region_round (S := SP) hm (by kernel_rfl) (by rintro ⟨_, _, h⟩; cases h.1) ?_
      refine wpAnyH_take (i := 0) (v := .pointer (some ⟨g, 0, none⟩)) rfl (by kernel_rfl) (by kernel_rfl) (by kernel_rfl) (fun _ _ _ h => h) (Or.inl ⟨by rfl, fun w' hS => ?_⟩) hS0 ?_
      · rw [hSP] at hS
        obtain ⟨s1, s2, s3, s4⟩ := hS
        go_simp
      refine wpAnyH_take (i := 1) (v := .pointer (some ⟨g, 0, none⟩)) rfl (by kernel_rfl) (by kernel_rfl) (by kernel_rfl) (fun _ _ _ h => h) (Or.inl ⟨by rfl, fun w' hS => ?_⟩) hS0 ?_
      · go_simp
      refine wpAnyH_take (i := 2) (v := .pointer (some ⟨g, 0, none⟩)) rfl (by kernel_rfl) (by kernel_rfl) (by kernel_rfl) (fun _ _ _ h => h) (Or.inl ⟨by rfl, fun w' hS => ?_⟩) hS0 ?_
      · go_simp
      refine wpAnyH_take (i := 3) (v := .agg (ucell p).toArray) rfl (by kernel_rfl) (by kernel_rfl) (by kernel_rfl) (fun _ _ _ h => h) (Or.inl ⟨by rfl, fun w' hS => ?_⟩) hS0 ?_
      · rw [hSP] at hS
        obtain ⟨s1, s2, s3, s4⟩ := hS
        exact run_load (rowT_of rowT_write K5.out.1) rfl s2
      refine wpAnyH_take (i := 4) (v := .slice (some ad) l.length ck) rfl (by kernel_rfl) (by kernel_rfl) (by kernel_rfl) (fun _ _ _ h => h) (Or.inl ⟨by rfl, fun w' hS => ?_⟩) hS0 ?_
      · rw [hSP] at hS
        obtain ⟨s1, s2, s3, s4⟩ := hS
        go_simp
      refine wpAnyH_take (i := 5) (v := .int .i64 (k : Int)) rfl (by kernel_rfl) (by kernel_rfl) (by kernel_rfl) (fun _ _ _ h => h) (Or.inl ⟨by rfl, fun w' hS => ?_⟩) hS0 ?_
      · go_simp
      refine wpAnyH_take (i := 6) (v := .pointer (some (ad.add k))) rfl (by kernel_rfl) (by kernel_rfl) (by kernel_rfl) (fun _ _ _ h => h) (Or.inl ⟨by rfl, fun w' hS => ?_⟩) hS0 ?_
      · go_simp
      refine wpAnyH_take (i := 7) (v := .int .i64 (n : Int)) rfl (by kernel_rfl) (by kernel_rfl) (by kernel_rfl) (fun _ _ _ h => h) (Or.inl ⟨by rfl, fun w' hS => ?_⟩) hS0 ?_
      · rw [hSP] at hS
        obtain ⟨s1, s2, s3, s4⟩ := hS
        go_simp
      refine wpAnyH_all (rs := [8]) (by kernel_rfl) (by simp) ?_
      intro i hi
      obtain rfl : i = 8 := by simpa using hi
      refine wpOp_enter (f := 41) (args := #[.pointer (some ⟨g, 0, none⟩), .agg (ucell p).toArray, .int .i64 (n : Int)]) rfl rfl (by go_simp) ?_
      refine (K1.out.2.2.2.2.2.1 _ K1.out.2.2.1.held.drew).mono ?_
      rintro e W2 ⟨rfl, hh2, hc2⟩
      obtain ⟨x1, z1, w1, hnext, k1, _, hSb, hkl⟩ := K1.out
      have nB0 : ¬ S' w.heap.size := fun x => by have := hSb _ x; omega
      have nB1 : ¬ S' (w.heap.size + 1) := fun x => by have := hSb _ x; omega
      refine ⟨_, rfl, by rw [hSP]; exact ⟨(w1.box.drew.chg hc2 nB0).cell 0, rangeAt_block K6.out.1 (hc2.block W.heap.size K6.out.2.2.2 (fun x => by have := hSb _ x; have := K6.out.2.2.1; omega)), (k1.drew.chg hc2 nB1).cell 0, (World.cell?_of_block (a := (ad.add k)) (hc2.block _ (World.block_lt_of_cell? W1 _ q4) (by rw [ad_block]; exact K6.out.2.1))).trans q4⟩, wpAnyH_done (by kernel_rfl) ?_ _⟩
      · refine ⟨rfl, ⟨hkl, ⟨by rw [hnext]; exact hh2, w1.box.drew.chg hc2 nB0, (w1.chg.trans (Chg.ofNew (bl_dr (bl_re _)))).trans hc2⟩, k1.drew.chg hc2 nB1⟩, hc2.toHeap (a := W1.drew) x1 (fun x => by have := hSb _ x; omega), hc2.toHeap (a := W1.drew) z1 (fun x => by have := hSb _ x; omega)⟩
    · have hnext : D.upto (kept l) (k + 1) = D.upto (kept l) k := by
        have h1 : (kept l).length ≤ k := by simp [kept]; omega
        unfold Dk.upto
        have e1 : (kept l).take (k + 1) = kept l := List.take_of_length_le (by omega)
        have e2 : (kept l).take k = kept l := List.take_of_length_le h1
        rw [e1, e2, puts_past D.U _ _ (k + 1) (by omega), puts_past D.U _ _ k h1]
      have K1 := Lib.hid (And.intro x1 (And.intro z1 (And.intro w1 (And.intro hnext (And.intro k1 (And.intro hSb hkl))))))
      have i2 : ¬ (k : Int) < (l.length : Int) := by omega
      clear x1 z1 w1 hnext hcl hc1 hW1 hy hx hW hp hpe hkl hpl hp1 hU hH hH' hSb hS' HH hb0 hbw hbv b0 b1 b2 a0 a1 h0 hZs r1 hlW hk hbk k1 HB HC HI HW hin hsk hc q2 hb1 l2
      gi_wp2_with (first
        | (with_reducible refine in_alloc 76 hZ ?_)
        | ((with_reducible refine in_store_new 76 (rowT_of rowT_write K5.out.1) (K2.out.trans K5.out.1.symm) K5.out.2 ?_ ?_ ?_); rfl; rfl))
      rw [K3.out]
      refine ⟨(Below.heap_alloc _ _ _ (Array.getElem?_eq_some_iff.1 K4.out).1).trans K4.out, ?_⟩
      gi_wp2_with fail
      obtain ⟨x1, z1, w1, hnext, k1, hSb, hkl⟩ := K1.out
      exact ⟨⟨hkl, by rw [hnext]; exact w1, k1⟩, x1, z1⟩
  case fin =>
    rintro W ⟨_, hW, hbk⟩ hd
    rw [upto_all D _ (by simp [kept]; omega)] at hW
    have q0 : W.cell? ⟨w.heap.size, 0, none⟩ = some (.pointer (some ⟨g, 0, none⟩)) := hW.box.cell 0
    have q1 : W.cell? ⟨g, 1, none⟩ = some (.slice so D.U.length cap) := hW.held.2.1.cell 1
    have f1 := hW.held.2.1.frozen 1
    have hne : w.heap.size ≠ g := by omega
    have K1 := Lib.hid (And.intro hW (And.intro hd (And.intro hS' (And.intro hSb hH))))
    clear hW hd hS' hSb hH hH' hU hfew HH hb0 b0 b1 b2 a0 a1 h0 hZs hZ hbk hbw hbv HB HC HI HW hin hsk hc q2 hb1
    gi_wp2
    obtain ⟨hW, hd, hS', hSb, hH⟩ := K1.out
    have c1 : Chg S' W (W.setCell ⟨g, 1, none⟩ (.slice none 0 0)) := Chg.ofSetCell _ _ _ hW.held.2.2.2.2.2.2.2.1
    have hd2 := c1.toHeap hd (fun x => by have := hSb _ x; omega)
    refine ⟨by simp, .inl ⟨_, _, rfl, run_takeDeferred hd2, ?_⟩⟩
    refine ⟨_, results_tmp rfl _ _ _, rfl, ?_, ?_⟩
    · have := (hW.held.clear.put (l := w.heap.size + 3) (fun x => by have := hSb _ x; omega) (.deferred none)).sub (S' := S) (fun k _ hk => by rw [hS'] at hk; exact hk.1)
      exact ⟨_, _, _, this⟩
    · have c3 := hW.chg.trans c1
      refine ⟨c3.os, c3.tape, c3.output, by simpa using c3.size, fun k hk hs => (World.putObj_heap_other (by omega)).trans (c3.block k hk fun x => hs ?_)⟩
      rw [hS'] at x
      exact x.1

theorem IntsAt.below {w w' : World} {so : Option Addr} {l : List Int} (h : IntsAt w so l) (hb : Below w.heap.size w w') : IntsAt w' so l := fun k x hk => by
  obtain ⟨a, h1, h2, h3⟩ := h k x hk
  exact ⟨a, h1, Nat.lt_of_lt_of_le h2 hb.size, (hb.cell (by rw [ad_block]; exact h2)).trans h3⟩
theorem IntsAt.take {w : World} {so : Option Addr} {l : List Int} (h : IntsAt w so l) (n : Nat) : IntsAt w so (l.take n) := fun k x hk => by
  rw [List.getElem?_take] at hk
  split at hk
  · exact h k x hk
  · cases hk

/-- What Crash does. -/
def Dk.crash (D : Dk) (l : List Int) : Int × Dk :=
  if D.U.length < l.length ∨ (l.all fun x => decide (0 ≤ x) && decide (x ≤ 64)) = false then (2, D) else (0, { D with S := Dk.puts D.S D.U (kept l), U := [] })

theorem crash_any (S : Nat → Prop) (g : Nat) (D : Dk) (sk : Option Addr) (ck n : Nat) (l : List Int) (w : World) (h : Held S w g D) (hn : l.length = n) (hl : l.length ≤ maxLen) (hin : ∀ x ∈ l, -9223372036854775808 ≤ x ∧ x ≤ 9223372036854775807) (hc : IntsAt w sk l)
    (hsk : ∀ a, sk = some a → 0 < l.length → ¬ S a.block) :
    Calls Try.prog 28 #[.pointer (some ⟨g, 0, none⟩), .slice sk n ck] w fun e w' => e = .returned (.int .i64 (D.crash l).1) ∧ Held S w' g (D.crash l).2 ∧ Chg S w w' := by
  subst hn
  by_cases hno : D.U.length < l.length ∨ (l.all fun x => decide (0 ≤ x) && decide (x ≤ 64)) = false
  · have e : D.crash l = (2, D) := by unfold Dk.crash; rw [if_pos hno]
    rw [e]
    refine (crash_no S g D sk ck l w h hl hin hc hno).mono ?_
    rintro e w' ⟨rfl, hb⟩
    exact ⟨rfl, h.below hb, Chg.ofNew hb⟩
  · have e : D.crash l = (0, { D with S := Dk.puts D.S D.U (kept l), U := [] }) := by unfold Dk.crash; rw [if_neg hno]
    rw [e]
    refine crash_ok S g D sk ck l w h (fun x hx => ?_) hc hsk (by omega)
    have h2 : (l.all fun x => decide (0 ≤ x) && decide (x ≤ 64)) = true := by
      cases hb : l.all fun x => decide (0 ≤ x) && decide (x ≤ 64) with
      | true => rfl
      | false => exact absurd (.inr hb) hno
    have := List.all_eq_true.1 h2 x hx
    simpa using this

theorem puts_other : ∀ (U : List (Nat × List UInt8)) (ks : List Nat) (S : List (List UInt8)) (j : Nat), (∀ p ∈ U, p.1 ≠ j) → (Dk.puts S U ks)[j]? = S[j]?
  | [], _, _, _, _ => rfl
  | _ :: _, [], _, _, _ => rfl
  | p :: U, n :: ks, S, j, h => by
    simp only [Dk.puts]
    rw [puts_other U ks _ j fun q hq => h q (List.mem_cons_of_mem _ hq), Dk.put, List.getElem?_set_ne (h p (List.mem_cons_self ..))]
theorem crash_S (D : Dk) (l : List Int) : (D.crash l).2.S.length = D.S.length := by
  unfold Dk.crash
  split
  · rfl
  · exact puts_length _ _ _
end Go.Proofs.Ytdaoiimjflplhaa
