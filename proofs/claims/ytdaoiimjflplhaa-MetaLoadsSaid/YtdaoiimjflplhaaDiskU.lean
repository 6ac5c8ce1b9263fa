/- package disk: Unsynced. -/
import Derived.Test.YtdaoiimjflplhaaDiskG
import Derived.Test.YtdaoiimjflplhaaRound
namespace Go.Proofs.Ytdaoiimjflplhaa
open Go.RowKit Go.Shelf
attribute [local go_sem] Oper.semAt_some
attribute [-go_sem] Instr.loadAt
attribute [local go_sem ↓] Go.wp_at_zero Go.wp_at_succ
attribute [local go_sem] loadAt_dp loadAt_i loadAt_is loadAt_ws loadAt_ss


/-- The sectors of what is not synced. -/
def unsV (U : List (Nat × List UInt8)) : List Value := U.map fun p => .int .i64 (p.1 : Int)
theorem unsV_snoc (U : List (Nat × List UInt8)) (k : Nat) (hk : k < U.length) : unsV (U.take (k + 1)) = unsV (U.take k) ++ [.int .i64 (U[k].1 : Int)] := by
  unfold unsV
  rw [List.take_succ_eq_append_getElem hk, List.map_append]
  rfl
theorem info_int : (Try.prog.info? 3).map (fun i => (i.zero, i.size, i.bytes)) = some (some (.int .i64 0), 1, 8) := by kernel_rfl

set_option maxRecDepth 100000 in
set_option maxHeartbeats 4000000 in
theorem unsynced_any (S : Nat → Prop) (g : Nat) (D : Dk) (w : World) (h : Held S w g D) :
    Calls Try.prog 26 #[.pointer (some ⟨g, 0, none⟩)] w fun e w' => ∃ so cap, e = .returned (.slice so D.U.length cap) ∧ w'.ownsRow w.heap.size 3 1 (.slice so D.U.length cap) D.U.length (unsV D.U) ∧ Below w.heap.size w w' := by
  obtain ⟨kb, so, cap, hH⟩ := h
  have hlt := hH.lt
  have HH := Lib.hid hH
  clear hH
  refine (callsIn_wide (n := 9)).1 (callsIn_of_wp_marks Try.func26 rfl trivial ?_ rfl)
  simp only [Try.ntmps26, List.size_toArray, List.length_cons, List.length_nil, Nat.reduceAdd, Nat.reduceSub, Array.replicate_succ, Array.replicate_zero, List.push_toArray, List.append_toArray, List.nil_append, List.cons_append]
  gi_wp2_with (refine ⟨trivial, ?_⟩; gi_at_call 40; refine (callsIn_wide.2 (pending_any _ _)).mono ?_; rintro e w2 ⟨rfl, rfl⟩)
  obtain ⟨Z2, hZ2, hZ2s⟩ := zero_write
  obtain ⟨i0, hi, hz0, hz1, hz2⟩ := info_parts info_int
  have hH := HH.out
  obtain ⟨S', hS'⟩ : ∃ S' : Nat → Prop, S' = fun k => S k ∧ k < w.heap.size := ⟨_, rfl⟩
  have hH' : HeldAt S' w g kb so cap D := hH.sub (S' := S') (fun k hk hs => by rw [hS']; exact ⟨hs, hk⟩)
  have hSb : ∀ k, S' k → k < w.heap.size := fun k hk => by rw [hS'] at hk; exact hk.2
  have hU := hH.ok.uns
  have hfew := hH.ok.few
  obtain ⟨w0, hw0⟩ : ∃ w0, (w.alloc (.cells #[.slice none 0 0] 51)).alloc (.cells #[.pointer (some ⟨g, 0, none⟩)] 102) = w0 := ⟨_, rfl⟩
  have hsz : w0.heap.size = w.heap.size + 2 := by rw [← hw0]; simp
  have hbw : Below w.heap.size w w0 := by rw [← hw0]; exact bl_al (bl_al (bl_re _) _) _
  have bn0 : Blk w0 w.heap.size 51 #[.slice none 0 0] := by rw [← hw0]; exact (Blk.new w _ _).alloc _
  have b2 : Blk w0 (w.heap.size + 1) 102 #[.pointer (some ⟨g, 0, none⟩)] := by
    rw [← hw0]
    have := Blk.new (w.alloc (.cells #[.slice none 0 0] 51)) 102 #[.pointer (some ⟨g, 0, none⟩)]
    rw [World.size_alloc] at this
    exact this
  rw [hw0]
  clear hw0
  refine rf_pending (Bm := w.heap.size + 1) (g := g) (so := so) (cap := cap) (U := D.U) (w.heap.size + 2) hsz rfl (b2.cell 0) ((hH'.below hbw).2.1.cell 1) (fun p hp => (hU p hp).1) hfew
    (fun k W => k ≤ D.U.length ∧ HeldAt S' W g kb so cap D ∧ (∃ v, Blk W w.heap.size 51 #[v] ∧ W.ownsRow (w.heap.size + 4) 3 1 v k (unsV (D.U.take k))) ∧ Below w.heap.size w W) ?own ?all ?put ?zero ?round ?fin
  case own => exact fun k W h => h.2.1.2.2.2.2.1
  case all =>
    rintro k W o ⟨j1, j2, ⟨v, j3, j4⟩, j6⟩
    exact ⟨j1, j2.alloc o, ⟨v, j3.alloc o, j4.alloc o⟩, bl_al j6 o⟩
  case put =>
    rintro k W o ⟨j1, j2, ⟨v, j3, j4⟩, j6⟩
    exact ⟨j1, j2.put (fun x => by have := hSb _ x; omega) o, ⟨v, j3.putObj (by omega) o, ownsRow_block j4 (fun b hb => World.putObj_heap_other (by have := (j4.lt b hb).1; omega))⟩, below_putObj j6 (by omega) o⟩
  case zero => exact ⟨Nat.zero_le _, hH'.below hbw, ⟨_, bn0, World.ownsRow_nil _ _ _ _⟩, hbw⟩
  case round =>
    rintro k p W x y z hp ⟨hk, j2, ⟨v, j3, j4⟩, j6⟩ hx hy hlW
    have hkl := (List.getElem?_eq_some_iff.1 hp).1
    have hpe : D.U[k] = p := (List.getElem?_eq_some_iff.1 hp).2
    obtain ⟨hpl, hp1⟩ := hU p (List.mem_of_getElem? hp)
    have hcl := ucell_length p hpl
    have hc1 := ucell_one p
    have hst := unsV_snoc D.U k hkl
    rw [hpe] at hst
    obtain ⟨W1, hW1⟩ : ∃ W1, (W.alloc (.cells (ucell p).toArray 76)).putObj (w.heap.size + 2 + 1) z = W1 := ⟨_, rfl⟩
    have k2 : HeldAt S' W1 g kb so cap D := by rw [← hW1]; exact (j2.alloc _).put (fun x => by have := hSb _ x; omega) _
    have k3 : Blk W1 w.heap.size 51 #[v] := by rw [← hW1]; exact (j3.alloc _).putObj (by omega) _
    have k4 : W1.ownsRow (w.heap.size + 4) 3 1 v k (unsV (D.U.take k)) := by
      rw [← hW1]
      exact ownsRow_block (j4.alloc _) (fun b hb => World.putObj_heap_other (by have := (j4.lt b hb).1; omega))
    have k6 : Below w.heap.size w W1 := by rw [← hW1]; exact below_putObj (bl_al j6 _) (by omega) _
    have bw : Blk W1 W.heap.size 76 (ucell p).toArray := by rw [← hW1]; exact (Blk.new W _ _).putObj (by omega) _
    have x1 : W1.heap[w.heap.size + 2]? = some x := by rw [← hW1]; exact (World.putObj_heap_other (by omega)).trans ((Below.heap_alloc _ _ _ (by omega)).trans hx)
    have z1 : W1.heap[w.heap.size + 2 + 1]? = some z := by rw [← hW1]; exact World.putObj_heap_same (by simp; omega)
    have hW1s : w.heap.size + 4 ≤ W1.heap.size := by rw [← hW1]; simp; omega
    have q1 : W1.cell? ⟨w.heap.size, 0, none⟩ = some v := k3.cell 0
    have q2 : W1.cell? ⟨W.heap.size, 0, none⟩ = some (.int .i64 (p.1 : Int)) := (bw.cell 0).trans (by simp [ucell])
    have K3 := Lib.hid hW1
    have K4 := Lib.hid hy
    have K5 := Lib.hid (And.intro hcl hc1)
    have K6 := Lib.hid (And.intro k2 (And.intro k3 (And.intro k4 (And.intro k6 (And.intro x1 (And.intro z1 (And.intro hst (And.intro hSb (And.intro hW1s (And.intro hfew hkl))))))))))
    have K7 := Lib.hid hZ2s
    have K8 := Lib.hid (And.intro hz1 hz2)
    clear k2 k3 k4 k6 bw x1 z1 hW1 hy hcl hc1 hx hst hpe hp hpl hp1 hkl hlW j2 j3 j4 j6 hk hSb hU hfew hH hH' hS' hbw bn0 b2 hsz hZ2s hz1 hz2 hW1s
    gi_wp2_with (first
      | (with_reducible refine in_alloc 76 hZ2 ?_)
      | ((with_reducible refine in_store_new 76 (rowT_of rowT_write K5.out.1) (K7.out.trans K5.out.1.symm) K5.out.2 ?_ ?_ ?_); rfl; rfl))
    rw [K3.out]
    refine ⟨(Below.heap_alloc _ _ _ (Array.getElem?_eq_some_iff.1 K4.out).1).trans K4.out, ?_⟩
    gi_wp2_with (gi_at_builtin
                 refine wpListIn_append_own _ rfl (.tmp 14) (.tmp 17) 51 rfl (w.heap.size + 4) 3 i0 (.int .i64 0) 1 8 Try.underlying51 hi hz0 K8.out.1 K8.out.2 rfl (by omega) v k (unsV (D.U.take k)) rfl (K6.out.2.2.1.alloc _) ⟨W1.heap.size, 0, none⟩ 1 1 [.int .i64 (p.1 : Int)] rfl rfl
                   (World.news_of_block (cs := #[.int .i64 (p.1 : Int)]) (t := 3) (fr := (0, 0)) (heap_alloc_new W1 _)) (by simp [Value.oneCell']) (by have := K6.out.2.2.2.2.2.2.2.2.2; unfold maxLen; omega) (by have := K6.out.2.2.2.2.2.2.2.2.2; omega) (by have := K6.out.2.2.2.2.2.2.2.2.1; simp; omega) ?_
                 intro v' w4 hown hgrow _
                 obtain ⟨gg, cp, rfl, hgg, _⟩ := hown.form (by omega)
                 have s1 : Blk w4 w.heap.size 51 #[v] := (K6.out.2.1.alloc _).grown hgrow (fun e => by have := (K6.out.2.2.1.lt w.heap.size e.symm).1; omega)
                 have s2 := s1.cell 0
                 have s3 := s1.frozen 0
                 have KB := Lib.hid (And.intro hown (And.intro hgrow (And.intro s1 hgg)))
                 clear hown hgrow s1 hgg)
    obtain ⟨hown, hgrow, s1, hgg⟩ := KB.out
    obtain ⟨k2, k3, k4, k6, x1, z1, hst, hSb, hW1s, hfew, hkl⟩ := K6.out
    have hrow : ∀ b, v.ownBlock = some b → w.heap.size + 4 ≤ b := fun b hb => (k4.lt b hb).1
    have hal : W1.grownBy (W1.alloc (.cells #[.int .i64 (p.1 : Int)] 3)) none := World.grownBy_alloc _ _ _
    have hblk : ∀ b, b < w.heap.size + 4 → w4.heap[b]? = W1.heap[b]? := fun b hb => by
      rw [hgrow.block b (by simp; omega) (fun e => by have := hrow b e.symm; omega)]
      exact Below.heap_alloc _ _ _ (by omega)
    have hset : ∀ b, b ≠ w.heap.size → (w4.setCell ⟨w.heap.size, 0, none⟩ (.slice (some ⟨gg, 0, none⟩) (k + 1) cp)).heap[b]? = w4.heap[b]? := fun b hb => heap_setCell_other _ _ _ _ hb
    have hsz4 : W1.heap.size ≤ w4.heap.size := by have := hgrow.size; simp at this; omega
    refine ⟨⟨hkl, k2.keep (fun b hb hs => by have := hSb _ hs; rw [hset b (by omega), hblk b (by omega)]) (by simpa using hsz4), ⟨_, s1.set_ 0 _, ?_⟩, ?_⟩, ?_, ?_⟩
    · rw [hst]
      refine ownsRow_block hown fun b hb => hset b ?_
      obtain rfl : gg = b := by simpa [Value.ownBlock] using hb
      omega
    · refine ⟨hgrow.os.trans k6.os, hgrow.tape.trans k6.tape, hgrow.output.trans k6.output, by have := k6.size; simp; omega, fun b hb => ?_⟩
      rw [hset b (by omega), hblk b (by omega)]
      exact k6.block b hb
    · rw [hset _ (by omega), hblk _ (by omega)]; exact x1
    · rw [hset _ (by omega), hblk _ (by omega)]; exact z1
  case fin =>
    rintro W ⟨_, j2, ⟨v, j3, j4⟩, j6⟩ hd
    rw [List.take_length] at j4
    have q1 : W.cell? ⟨w.heap.size, 0, none⟩ = some v := j3.cell 0
    have hv : ∃ so cap, v = .slice so D.U.length cap := by
      rcases j4.2 with ⟨e, h0⟩ | ⟨gg, cp, cur, e, _⟩
      · exact ⟨none, 0, by rw [e, h0]⟩
      · exact ⟨_, _, e⟩
    obtain ⟨so', cap', rfl⟩ := hv
    have K6 := Lib.hid (And.intro hd (And.intro j6 j4))
    clear hd j2 j3 j4 j6 hU hfew hH hH' hbw bn0 b2 hSb hS' hZ2 hZ2s hi hz0 hz1 hz2 HH
    gi_wp2
    obtain ⟨hd, j6, j4⟩ := K6.out
    refine ⟨by simp, .inl ⟨_, _, rfl, run_takeDeferred hd, ?_⟩⟩
    refine ⟨_, results_tmp rfl _ _ _, so', cap', rfl, ?_, below_putObj j6 (by omega) _⟩
    have := ownsRow_block (w' := W.putObj (w.heap.size + 2) (.deferred none)) j4 (fun b hb => World.putObj_heap_other (by have := (j4.lt b hb).1; omega))
    refine ⟨this.1, this.2.imp id ?_⟩
    rintro ⟨gg, cp, cur, e, hb, rest⟩
    exact ⟨gg, cp, cur, e, by omega, rest⟩
end Go.Proofs.Ytdaoiimjflplhaa
