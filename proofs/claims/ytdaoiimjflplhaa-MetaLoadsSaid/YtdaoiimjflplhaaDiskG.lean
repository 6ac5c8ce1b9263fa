/- package disk: Read, Unsynced. -/
import Derived.Test.YtdaoiimjflplhaaDiskF
import Derived.Test.YtdaoiimjflplhaaRound
namespace Go.Proofs.Ytdaoiimjflplhaa
open Go.RowKit Go.Shelf
attribute [local go_sem] Oper.semAt_some
attribute [-go_sem] Instr.loadAt
attribute [local go_sem ↓] Go.wp_at_zero Go.wp_at_succ
attribute [local go_sem] loadAt_dp loadAt_i loadAt_is loadAt_ws loadAt_ss


/-- The bytes of a sector: of the last write of it, if there is one. -/
def Dk.over (i : Nat) (s : List UInt8) (U : List (Nat × List UInt8)) : List UInt8 := U.foldl (fun s p => if p.1 = i then p.2 else s) s
def Dk.rd (D : Dk) (i : Nat) : List UInt8 := Dk.over i (D.S[i]?.getD []) D.U
theorem over_snoc (i : Nat) (s : List UInt8) (U : List (Nat × List UInt8)) (k : Nat) (hk : k < U.length) : Dk.over i s (U.take (k + 1)) = if U[k].1 = i then U[k].2 else Dk.over i s (U.take k) := by
  unfold Dk.over
  rw [List.take_succ_eq_append_getElem hk, List.foldl_append]
  rfl
theorem over_length (i : Nat) : ∀ (U : List (Nat × List UInt8)) (s : List UInt8), s.length = 64 → (∀ p ∈ U, p.2.length = 64) → (Dk.over i s U).length = 64
  | [], s, h, _ => h
  | p :: U, s, h, hU => by
    simp only [Dk.over, List.foldl_cons]
    refine over_length i U _ ?_ fun q hq => hU q (List.mem_cons_of_mem _ hq)
    split
    · exact hU p (List.mem_cons_self ..)
    · exact h

set_option maxRecDepth 100000 in
set_option maxHeartbeats 1000000 in
theorem read_far (S : Nat → Prop) (g : Nat) (D : Dk) (at_ : Int) (w : World) (h : Held S w g D) (hat : -9223372036854775808 ≤ at_ ∧ at_ ≤ 9223372036854775807) (hc : D.chk at_ = 10) :
    Calls Try.prog 50 #[.pointer (some ⟨g, 0, none⟩), .int .i64 at_] w fun e w' => e = .returned (.tuple #[.string (mk []), .int .i64 10]) ∧ Below w.heap.size w w' := by
  have H := Lib.hid (check_any S g D at_ _ (h.alloc (.cells #[.int .i64 at_] 3)) hat)
  rw [hc] at H
  clear h hat hc
  go_enter Try.func50, Try.ntmps50
  go_wp2_with fail
  refine wp_scope_straight ?_
  go_wp2_with (go_at_call 36; refine H.out.mono ?_; rintro e w1 ⟨rfl, hb1⟩)
  simp only [Exit.noGoto]
  go_ret2
  exact ⟨rfl, (bl_al (bl_re w) _).trans (hb1.mono (by simp))⟩

set_option maxRecDepth 100000 in
set_option maxHeartbeats 4000000 in
theorem read_ok (S : Nat → Prop) (g : Nat) (D : Dk) (i : Nat) (w : World) (h : Held S w g D) (hi : i < D.S.length) :
    Calls Try.prog 50 #[.pointer (some ⟨g, 0, none⟩), .int .i64 i] w fun e w' => e = .returned (.tuple #[.string (mk (D.rd i)), .int .i64 0]) ∧ Below w.heap.size w w' := by
  have hmost := h.ok.most
  have hchk : D.chk i = 0 := by
    rcases D.chk_or i with hc | ⟨hc, _⟩
    · exfalso; unfold Dk.chk at hc; rw [if_pos (by omega)] at hc; cases hc
    · exact hc
  have H := Lib.hid (check_any S g D i _ (h.alloc (.cells #[.int .i64 (i : Int)] 3)) (by omega))
  rw [hchk] at H
  obtain ⟨kb, so, cap, hH⟩ := h
  have HH := Lib.hid hH
  clear hH hmost hchk
  refine (callsIn_wide (n := 9)).1 (callsIn_of_wp_marks Try.func50 rfl trivial ?_ rfl)
  simp only [Try.ntmps50, List.size_toArray, List.length_cons, List.length_nil, Nat.reduceAdd, Nat.reduceSub, Array.replicate_succ, Array.replicate_zero, List.push_toArray, List.append_toArray, List.nil_append, List.cons_append]
  gi_wp2_with fail
  refine (wpIn_wide (n := 9)).2 (wp_scope_straight ((wpIn_wide (n := 9)).1 ?_))
  gi_wp2_with (refine ⟨trivial, ?_⟩; gi_at_call 36; refine (callsIn_wide.2 H.out).mono ?_; rintro e w1 ⟨rfl, hb1⟩)
  have hH := HH.out
  have hlt := hH.lt
  have hsz1 := hb1.size
  rw [World.size_alloc] at hsz1
  have hB1 : Below w.heap.size w w1 := (bl_al (bl_re w) _).trans (hb1.mono (by simp))
  have hH1 := hH.below hB1
  have ba1 : Blk w1 w.heap.size 3 #[.int .i64 (i : Int)] := (Blk.new w 3 #[.int .i64 (i : Int)]).below hb1 (by simp)
  obtain ⟨Z, hZ, hZe⟩ := zero_sector
  have hZs : Z.size = 64 := by rw [hZe]; simp
  clear hZe
  obtain ⟨s, hs⟩ : ∃ s, D.S[i]? = some s := ⟨_, List.getElem?_eq_getElem hi⟩
  have hsl : s.length = 64 := hH.ok.sec s (List.mem_of_getElem? hs)
  have r1 : w1.rangeAt kb (i * 64) (u8s s) := hH1.2.2.1 i s hs
  have p1 : w1.cell? ⟨g, 0, none⟩ = some (.slice (some ⟨kb, 0, none⟩) D.S.length D.S.length) := hH1.2.1.cell 0
  have p2 : w1.cell? ⟨w.heap.size, 0, none⟩ = some (.int .i64 (i : Int)) := ba1.cell 0
  have i1 : (0 : Int) ≤ (i : Int) := Int.natCast_nonneg _
  have i2 : (i : Int) < (D.S.length : Int) := by omega
  have K1 := Lib.hid (And.intro hH (And.intro hH1 (And.intro hB1 (And.intro ba1 (And.intro hs hsl)))))
  have K2 := Lib.hid hZs
  have hm : Try.prog.follows .mixedOrders = true := by kernel_rfl
  clear hH hH1 hB1 ba1 hb1 H HH hZs hs
  obtain ⟨SP, hSP⟩ : ∃ SP : World → Prop, SP = fun w' : World => w'.cell? ⟨g, 0, none⟩ = some (.slice (some ⟨kb, 0, none⟩) D.S.length D.S.length) ∧ w'.cell? ⟨w.heap.size, 0, none⟩ = some (.int .i64 (i : Int)) ∧ w'.rangeAt kb (i * 64) (u8s s) := ⟨_, rfl⟩
  have hS0 : SP w1.drew := by rw [hSP]; exact ⟨p1, p2, (World.rangeAt_drew _ _ _ _).2 r1⟩
  have hS1 : ∀ Z, SP (w1.drew.alloc (.cells Z 73)) := fun Z => by
    rw [hSP]
    refine ⟨?_, ?_, World.rangeAt_alloc ((World.rangeAt_drew _ _ _ _).2 r1) _⟩
    · exact (World.cell?_alloc_lt w1.drew _ _ (World.block_lt_of_cell? w1 _ p1)).trans p1
    · exact (World.cell?_alloc_lt w1.drew _ _ (World.block_lt_of_cell? w1 _ p2)).trans p2
  refine (wpIn_wide (n := 9)).2 ?_
  refine wp_region_noPanic (wp_region_held (S := SP) hm ?_)
  refine wpAnyH_take (i := 0) (v := .pointer (some ⟨g, 0, none⟩)) rfl (by kernel_rfl) (by kernel_rfl) (by kernel_rfl) (fun _ _ _ h => h) (Or.inl ⟨by rfl, fun w' hS => ?_⟩) hS0 ?_
  · go_simp
  refine wpAnyH_take (i := 1) (v := .pointer (some ⟨g, 0, none⟩)) rfl (by kernel_rfl) (by kernel_rfl) (by kernel_rfl) (fun _ _ _ h => h) (Or.inl ⟨by rfl, fun w' hS => ?_⟩) hS0 ?_
  · go_simp
  refine wpAnyH_take (i := 2) (v := .pointer (some ⟨g, 0, none⟩)) rfl (by kernel_rfl) (by kernel_rfl) (by kernel_rfl) (fun _ _ _ h => h) (Or.inl ⟨by rfl, fun w' hS => ?_⟩) hS0 ?_
  · go_simp
  refine wpAnyH_take (i := 3) (v := .pointer (some ⟨g, 0, none⟩)) rfl (by kernel_rfl) (by kernel_rfl) (by kernel_rfl) (fun _ _ _ h => h) (Or.inl ⟨by rfl, fun w' hS => ?_⟩) hS0 ?_
  · go_simp
  refine wpAnyH_take (i := 4) (v := .slice (some ⟨kb, 0, none⟩) D.S.length D.S.length) rfl (by kernel_rfl) (by kernel_rfl) (by kernel_rfl) (fun _ _ _ h => h) (Or.inl ⟨by rfl, fun w' hS => ?_⟩) hS0 ?_
  · rw [hSP] at hS
    obtain ⟨s1, s2, s3⟩ := hS
    go_simp
  refine wpAnyH_take (i := 5) (v := .int .i64 (i : Int)) rfl (by kernel_rfl) (by kernel_rfl) (by kernel_rfl) (fun _ _ _ h => h) (Or.inl ⟨by rfl, fun w' hS => ?_⟩) hS0 ?_
  · rw [hSP] at hS
    obtain ⟨s1, s2, s3⟩ := hS
    go_simp
  refine wpAnyH_take (i := 6) (v := .pointer (some ⟨kb, i * 64, none⟩)) rfl (by kernel_rfl) (by kernel_rfl) (by kernel_rfl) (fun _ _ _ h => h) (Or.inl ⟨by rfl, fun w' hS => ?_⟩) hS0 ?_
  · go_simp
  refine wpAnyH_take (i := 7) (v := .agg (u8s s).toArray) rfl (by kernel_rfl) (by kernel_rfl) (by kernel_rfl) (fun _ _ _ h => h) (Or.inl ⟨by rfl, fun w' hS => ?_⟩) hS0 ?_
  · rw [hSP] at hS
    obtain ⟨s1, s2, s3⟩ := hS
    exact run_load (b := kb) (o := i * 64) (rowT_of rowT_sector (by rw [u8s_length, K1.out.2.2.2.2.2])) (by go_simp) s3
  refine wpAnyH_all (rs := [8]) (by kernel_rfl) (by simp) ?_
  intro i' hi'
  obtain rfl : i' = 8 := by simpa using hi'
  refine wpOp_value rfl rfl (.inl rfl) (run_alloc hZ) ⟨hS1 _, ?_⟩
  refine wpAnyH_all (rs := [9]) (by kernel_rfl) (by simp) ?_
  intro i' hi'
  obtain rfl : i' = 9 := by simpa using hi'
  refine wpOp_value rfl rfl (.inr ⟨rfl, rfl⟩) (run_store_new (cs := u8s s) (rowT_of rowT_sector (by rw [u8s_length, K1.out.2.2.2.2.2])) (by rw [u8s_length, K1.out.2.2.2.2.2, K2.out]) (u8s_one _) (by go_simp) (by go_simp)) ⟨hS1 _, ?_⟩
  refine wpAnyH_done (by kernel_rfl) (NoPanic.normal ?_) _
  clear hS0 hS1 hi'
  go_simp
  gi_wp2_with fail
  refine wpIn_label ?_
  gi_wp2_with (refine ⟨trivial, ?_⟩; gi_at_call 40; refine (callsIn_wide.2 (pending_any _ _)).mono ?_; rintro e w2 ⟨rfl, rfl⟩)
  obtain ⟨hH, hH1, hB1, ba1, hs, hsl⟩ := K1.out
  obtain ⟨Z2, hZ2, hZ2s⟩ := zero_write
  obtain ⟨S', hS'⟩ : ∃ S' : Nat → Prop, S' = fun k => S k ∧ k < w.heap.size := ⟨_, rfl⟩
  have hH' : HeldAt S' w1 g kb so cap D := (hH.sub (S' := S') (fun k hk hs => by rw [hS']; exact ⟨hs, hk⟩)).below hB1
  have hSb : ∀ k, S' k → k < w.heap.size := fun k hk => by rw [hS'] at hk; exact hk.2
  have hU := hH.ok.uns
  have hfew := hH.ok.few
  obtain ⟨w0, hw0⟩ : ∃ w0, ((w1.alloc (.cells (u8s s).toArray 73)).alloc (.cells #[.pointer (some ⟨g, 0, none⟩)] 102)).drew = w0 := ⟨_, rfl⟩
  have hsz : w0.heap.size = w1.heap.size + 2 := by rw [← hw0]; simp
  have hbw : Below w1.heap.size w1 w0 := by rw [← hw0]; exact bl_dr (bl_al (bl_al (bl_re _) _) _)
  have bn0 : Blk w0 w1.heap.size 73 (u8s s).toArray := by rw [← hw0]; exact ((Blk.new w1 _ _).alloc _).drew
  have b2 : Blk w0 (w1.heap.size + 1) 102 #[.pointer (some ⟨g, 0, none⟩)] := by
    rw [← hw0]
    have := Blk.new (w1.alloc (.cells (u8s s).toArray 73)) 102 #[.pointer (some ⟨g, 0, none⟩)]
    rw [World.size_alloc] at this
    exact this.drew
  rw [hw0]
  clear hw0
  refine rf_pending (Bm := w1.heap.size + 1) (g := g) (so := so) (cap := cap) (U := D.U) (w1.heap.size + 2) hsz rfl (b2.cell 0) ((hH'.below hbw).2.1.cell 1) (fun p hp => (hU p hp).1) hfew
    (fun k W => k ≤ D.U.length ∧ HeldAt S' W g kb so cap D ∧ Blk W w.heap.size 3 #[.int .i64 (i : Int)] ∧ W.there w1.heap.size 0 64 ∧ W.rangeAt w1.heap.size 0 (u8s (Dk.over i s (D.U.take k))) ∧ Below w.heap.size w W) ?own ?all ?put ?zero ?round ?fin
  case own => exact fun k W h => h.2.1.2.2.2.2.1
  case all =>
    rintro k W o ⟨j1, j2, j3, j4, j5, j6⟩
    exact ⟨j1, j2.alloc o, j3.alloc o, World.there_alloc j4 o, World.rangeAt_alloc j5 o, bl_al j6 o⟩
  case put =>
    rintro k W o ⟨j1, j2, j3, j4, j5, j6⟩
    have hb : (W.putObj (w1.heap.size + 2 + 1) o).heap[w1.heap.size]? = W.heap[w1.heap.size]? := World.putObj_heap_other (by omega)
    exact ⟨j1, j2.put (fun x => by have := hSb _ x; omega) o, j3.putObj (by omega) o, there_block j4 hb, rangeAt_block j5 hb, below_putObj j6 (by omega) o⟩
  case zero =>
    refine ⟨Nat.zero_le _, hH'.below hbw, ba1.below hbw (by omega), blk_there bn0 64 (by simp [hsl]), ?_, hB1.trans (hbw.mono (by omega))⟩
    exact rangeAt_row bn0 _ (fun j v hv => by simpa [Dk.over] using hv)
  case round =>
    rintro k p W x y z hp ⟨hk, j2, j3, j4, j5, j6⟩ hx hy hlW
    have hkl := (List.getElem?_eq_some_iff.1 hp).1
    have hpe : D.U[k] = p := (List.getElem?_eq_some_iff.1 hp).2
    obtain ⟨hpl, hp1⟩ := hU p (List.mem_of_getElem? hp)
    have hcl := ucell_length p hpl
    have hc1 := ucell_one p
    have hst := over_snoc i s D.U k hkl
    rw [hpe] at hst
    obtain ⟨W1, hW1⟩ : ∃ W1, (W.alloc (.cells (ucell p).toArray 76)).putObj (w1.heap.size + 2 + 1) z = W1 := ⟨_, rfl⟩
    have hne : (W.alloc (.cells (ucell p).toArray 76)).putObj (w1.heap.size + 2 + 1) z = W1 := hW1
    have hb : W1.heap[w1.heap.size]? = (W.alloc (.cells (ucell p).toArray 76)).heap[w1.heap.size]? := by rw [← hW1]; exact World.putObj_heap_other (by omega)
    have k2 : HeldAt S' W1 g kb so cap D := by rw [← hW1]; exact (j2.alloc _).put (fun x => by have := hSb _ x; omega) _
    have k3 : Blk W1 w.heap.size 3 #[.int .i64 (i : Int)] := by rw [← hW1]; exact (j3.alloc _).putObj (by omega) _
    have k4 : W1.there w1.heap.size 0 64 := there_block (World.there_alloc j4 _) hb
    have k5 : W1.rangeAt w1.heap.size 0 (u8s (Dk.over i s (D.U.take k))) := rangeAt_block (World.rangeAt_alloc j5 _) hb
    have k6 : Below w.heap.size w W1 := by rw [← hW1]; exact below_putObj (bl_al j6 _) (by omega) _
    have bw : Blk W1 W.heap.size 76 (ucell p).toArray := by rw [← hW1]; exact (Blk.new W _ _).putObj (by omega) _
    have x1 : W1.heap[w1.heap.size + 2]? = some x := by rw [← hW1]; exact (World.putObj_heap_other (by omega)).trans ((Below.heap_alloc _ _ _ (by omega)).trans hx)
    have z1 : W1.heap[w1.heap.size + 2 + 1]? = some z := by rw [← hW1]; exact World.putObj_heap_same (by simp; omega)
    have q1 : W1.cell? ⟨w.heap.size, 0, none⟩ = some (.int .i64 (i : Int)) := k3.cell 0
    have q2 : W1.cell? ⟨W.heap.size, 0, none⟩ = some (.int .i64 (p.1 : Int)) := (bw.cell 0).trans (by simp [ucell])
    have r2 : W1.rangeAt W.heap.size 1 (u8s p.2) := rangeAt_row bw _ (fun j v hv => by rw [← hv]; simp [ucell, Nat.add_comm 1 j])
    have K3 := Lib.hid hW1
    have K4 := Lib.hid hy
    have K5 := Lib.hid (And.intro hcl hc1)
    have K6 := Lib.hid (And.intro k2 (And.intro k3 (And.intro k4 (And.intro k5 (And.intro k6 (And.intro x1 (And.intro z1 (And.intro hst (And.intro hSb (And.intro r2 (And.intro hpl (And.intro hsz1 hkl))))))))))))
    have K7 := Lib.hid hZ2s
    clear hne hb k2 k3 k4 k5 k6 bw x1 z1 hW1 hy hcl hc1 hx hst hpe hp r2 hpl hp1 hkl hlW j2 j3 j4 j5 j6 hk hSb hU hfew hH hH1 hB1 ba1 hs hsl hH' hS' hbw bn0 b2 hsz r1 p1 p2 hZ2s hSP i2
    by_cases hpi : p.1 = i
    · have e1 : ((p.1 : Int) != (i : Int)) = false := by simp [hpi]
      have d1 : (p.1 : Int) = (i : Int) := by omega
      gi_wp2_with (first
        | (with_reducible refine in_alloc 76 hZ2 ?_)
        | ((with_reducible refine in_store_new 76 (rowT_of rowT_write K5.out.1) (K7.out.trans K5.out.1.symm) K5.out.2 ?_ ?_ ?_); rfl; rfl))
      rw [K3.out]
      refine ⟨(Below.heap_alloc _ _ _ (Array.getElem?_eq_some_iff.1 K4.out).1).trans K4.out, ?_⟩
      gi_wp2_with (first
        | ((with_reducible refine in_load 73 W.heap.size 1 (rowT_of rowT_sector (by rw [u8s_length, K6.out.2.2.2.2.2.2.2.2.2.2.1])) ?_ K6.out.2.2.2.2.2.2.2.2.2.1 ?_); rfl)
        | ((with_reducible refine in_store_mid 73 w1.heap.size 0 (rowT_of rowT_sector (by rw [u8s_length, K6.out.2.2.2.2.2.2.2.2.2.2.1])) (by rw [u8s_length, K6.out.2.2.2.2.2.2.2.2.2.2.1]; exact K6.out.2.2.1) (u8s_one _) ?_ ?_ ?_); rfl; rfl))
      obtain ⟨k2, k3, k4, k5, k6, x1, z1, hst, hSb, r2, hpl, _, hkl⟩ := K6.out
      rw [if_pos hpi] at hst
      have hc : Chg (fun j => j = w1.heap.size) W1 (W1.setCells w1.heap.size 0 (u8s p.2)) := Chg.ofSetCells (S := fun j => j = w1.heap.size) w1.heap.size rfl _ _ _
      refine ⟨⟨hkl, k2.keep (fun j hj hs => hc.block j hj (fun x => by have := hSb _ hs; omega)) hc.size, k3.chg hc (by omega), World.there_setCells k4 _ _ _, ?_, k6.trans (hc.below (fun j hj => by omega) k6.size)⟩, hc.toHeap x1 (by omega), hc.toHeap z1 (by omega)⟩
      rw [hst]
      exact World.rangeAt_setCells_same _ _ _ _ (by rw [u8s_length, hpl]; exact k4)
    · have e1 : ((p.1 : Int) != (i : Int)) = true := by simp; omega
      gi_wp2_with (first
        | (with_reducible refine in_alloc 76 hZ2 ?_)
        | ((with_reducible refine in_store_new 76 (rowT_of rowT_write K5.out.1) (K7.out.trans K5.out.1.symm) K5.out.2 ?_ ?_ ?_); rfl; rfl))
      rw [K3.out]
      refine ⟨(Below.heap_alloc _ _ _ (Array.getElem?_eq_some_iff.1 K4.out).1).trans K4.out, ?_⟩
      gi_wp2_with fail
      obtain ⟨k2, k3, k4, k5, k6, x1, z1, hst, hSb, r2, hpl, _, hkl⟩ := K6.out
      rw [if_neg hpi] at hst
      exact ⟨⟨hkl, k2, k3, k4, by rw [hst]; exact k5, k6⟩, x1, z1⟩
  case fin =>
    rintro W ⟨_, j2, j3, j4, j5, j6⟩ hd
    rw [List.take_length] at j5
    have hol : (Dk.over i s D.U).length = 64 := over_length i D.U s hsl (fun p hp => (hU p hp).1)
    have hrd : D.rd i = Dk.over i s D.U := by unfold Dk.rd; rw [hs]; rfl
    have hcv := conv_back (P := Try.prog) W 59 9 5 w1.heap.size 64 64 (Dk.over i s D.U) Try.underlying59 Try.underlying5 Try.underlying9 hol (fun j hj => by
      have := j5 j (.int .u8 ((Dk.over i s D.U)[j].toNat : Int)) (by rw [u8s_get, List.getElem?_eq_getElem hj]; rfl)
      simpa using this)
    have K6 := Lib.hid (And.intro hd (And.intro j6 hrd))
    clear hd j2 j3 j4 j5 j6 hrd hol hs hU hfew hH hH1 hH' hB1 ba1 hbw bn0 b2 K1 hSb hS' hSP r1 p1 p2 hZ2 hZ2s hZ K2 hsl
    generalize Dk.over i s D.U = L at *
    gi_wp2
    obtain ⟨hd, j6, hrd⟩ := K6.out
    simp only [Exit.noGoto]
    refine ⟨by simp, .inl ⟨_, _, rfl, run_takeDeferred hd, ?_⟩⟩
    refine ⟨_, results_tmp2 rfl _ _ _, ?_, below_putObj j6 (by omega) _⟩
    rw [hrd]
    rfl

/-- What Read tells. -/
def Dk.read (D : Dk) (at_ : Int) : List UInt8 × Int := if D.chk at_ ≠ 0 then ([], 10) else (D.rd at_.toNat, 0)
theorem read_any (S : Nat → Prop) (g : Nat) (D : Dk) (at_ : Int) (w : World) (h : Held S w g D) (hat : -9223372036854775808 ≤ at_ ∧ at_ ≤ 9223372036854775807) :
    Calls Try.prog 50 #[.pointer (some ⟨g, 0, none⟩), .int .i64 at_] w fun e w' => e = .returned (.tuple #[.string (mk (D.read at_).1), .int .i64 (D.read at_).2]) ∧ Below w.heap.size w w' := by
  rcases D.chk_or at_ with hc | ⟨hc, h0, h1⟩
  · have e : D.read at_ = ([], 10) := by unfold Dk.read; rw [if_pos (by rw [hc]; decide)]
    rw [e]
    exact read_far S g D at_ w h hat hc
  · have e : D.read at_ = (D.rd at_.toNat, 0) := by unfold Dk.read; rw [if_neg (by rw [hc]; decide)]
    rw [e]
    obtain ⟨i, rfl⟩ : ∃ i : Nat, at_ = i := ⟨at_.toNat, by omega⟩
    exact read_ok S g D i w h (by omega)

theorem over_other (i : Nat) : ∀ (U : List (Nat × List UInt8)) (s : List UInt8), (∀ p ∈ U, p.1 ≠ i) → Dk.over i s U = s
  | [], _, _ => rfl
  | p :: U, s, h => by
    simp only [Dk.over, List.foldl_cons]
    rw [if_neg (h p (List.mem_cons_self ..))]
    exact over_other i U s fun q hq => h q (List.mem_cons_of_mem _ hq)
/-- A sector that no unsynced write is of is read behind a crash as it was kept. -/
theorem crash_rd (D : Dk) (l : List Int) (j : Nat) (h : ∀ p ∈ D.U, p.1 ≠ j) : (D.crash l).2.rd j = D.S[j]?.getD [] := by
  unfold Dk.crash
  split
  · unfold Dk.rd
    exact over_other j _ _ h
  · unfold Dk.rd
    dsimp only
    rw [puts_other _ _ _ _ h]
    rfl
end Go.Proofs.Ytdaoiimjflplhaa
