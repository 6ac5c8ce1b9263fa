/- package disk: Sync, Crash. -/
import Derived.Test.YtdaoiimjflplhaaDiskD
namespace Go.Proofs.Ytdaoiimjflplhaa
open Go.RowKit Go.Shelf
attribute [local go_sem] Oper.semAt_some
attribute [-go_sem] Instr.loadAt
attribute [local go_sem ↓] Go.wp_at_zero Go.wp_at_succ
theorem loadAt_dp (a : Addr) : Instr.loadAt 36 (.pointer (some a)) = loadVar 36 a := rfl
theorem loadAt_i (a : Addr) : Instr.loadAt 3 (.pointer (some a)) = loadVar 3 a := rfl
theorem loadAt_is (a : Addr) : Instr.loadAt 51 (.pointer (some a)) = loadVar 51 a := rfl
theorem loadAt_ws (a : Addr) : Instr.loadAt 63 (.pointer (some a)) = loadVar 63 a := rfl
theorem loadAt_ss (a : Addr) : Instr.loadAt 62 (.pointer (some a)) = loadVar 62 a := rfl
attribute [local go_sem] loadAt_dp loadAt_i loadAt_is loadAt_ws loadAt_ss

/-- A sector's first n bytes, out of a write. -/
def Dk.put (S : List (List UInt8)) (p : Nat × List UInt8) (n : Nat) : List (List UInt8) := S.set p.1 (p.2.take n ++ (S[p.1]?.getD []).drop n)
/-- So many bytes of each write. -/
def Dk.puts (S : List (List UInt8)) : List (Nat × List UInt8) → List Nat → List (List UInt8)
  | p :: U, n :: ks => Dk.puts (Dk.put S p n) U ks
  | _, _ => S
theorem puts_snoc : ∀ (U : List (Nat × List UInt8)) (ks : List Nat) (S : List (List UInt8)) (k : Nat) (hk : k < U.length) (hn : k < ks.length), Dk.puts S (U.take (k + 1)) (ks.take (k + 1)) = Dk.put (Dk.puts S (U.take k) (ks.take k)) U[k] ks[k]
  | p :: U, n :: ks, S, 0, _, _ => rfl
  | p :: U, n :: ks, S, k + 1, hk, hn => puts_snoc U ks (Dk.put S p n) k (by simpa using hk) (by simpa using hn)
theorem puts_past : ∀ (U : List (Nat × List UInt8)) (ks : List Nat) (S : List (List UInt8)) (k : Nat), ks.length ≤ k → Dk.puts S (U.take k) ks = Dk.puts S U ks
  | [], ks, S, k, _ => by simp
  | p :: U, [], S, k, _ => by cases k <;> rfl
  | p :: U, n :: ks, S, 0, h => by simp at h
  | p :: U, n :: ks, S, k + 1, h => by
    simp only [List.take_succ_cons, Dk.puts]
    exact puts_past U ks _ k (by simpa using h)
theorem puts_length : ∀ (U : List (Nat × List UInt8)) (ks : List Nat) (S : List (List UInt8)), (Dk.puts S U ks).length = S.length
  | [], _, S => rfl
  | _ :: _, [], S => rfl
  | p :: U, n :: ks, S => by simp only [Dk.puts]; rw [puts_length U ks]; simp [Dk.put]

/-- The sectors when the first k writes have been kept. -/
def Dk.upto (D : Dk) (ks : List Nat) (k : Nat) : List (List UInt8) := Dk.puts D.S (D.U.take k) (ks.take k)
theorem upto_all (D : Dk) (ks : List Nat) (h : ks.length ≤ D.U.length) : D.upto ks D.U.length = Dk.puts D.S D.U ks := by unfold Dk.upto; rw [List.take_length, List.take_of_length_le h]
theorem upto_snoc (D : Dk) (ks : List Nat) (k : Nat) (hk : k < D.U.length) (hn : k < ks.length) : D.upto ks (k + 1) = Dk.put (D.upto ks k) D.U[k] ks[k] := puts_snoc D.U ks D.S k hk hn
theorem upto_length (D : Dk) (ks : List Nat) (k : Nat) : (D.upto ks k).length = D.S.length := puts_length _ _ _

theorem Chg.toHeap {S : Nat → Prop} {a b : World} (h : Chg S a b) {k : Nat} {o : Obj} (hk : a.heap[k]? = some o) (hs : ¬ S k) : b.heap[k]? = some o := (h.block k (Array.getElem?_eq_some_iff.1 hk).1 hs).trans hk
theorem Blk.chg {S : Nat → Prop} {w w' : World} {g : Nat} {t : TypeId} {cs : Array Value} (h : Blk w g t cs) (hc : Chg S w w') (hs : ¬ S g) : Blk w' g t cs := hc.toHeap h hs

/-- What holds at each round of Sync, Crash: the disk in its place, the box that holds its pointer, whatever else lay. -/
structure Wrt (S : Nat → Prop) (w : World) (g kb : Nat) (so : Option Addr) (cap : Nat) (D : Dk) (B0 : Nat) (W : World) : Prop where
  held : HeldAt S W g kb so cap D
  box : Blk W B0 36 #[.pointer (some ⟨g, 0, none⟩)]
  chg : Chg S w W
theorem Wrt.alloc {S : Nat → Prop} {w W : World} {g kb cap B0 : Nat} {so : Option Addr} {D : Dk} (h : Wrt S w g kb so cap D B0 W) (o : Obj) : Wrt S w g kb so cap D B0 (W.alloc o) :=
  ⟨h.held.alloc o, h.box.alloc o, h.chg.trans (Chg.ofNew (bl_al (bl_re W) o))⟩
theorem Wrt.put {S : Nat → Prop} {w W : World} {g kb cap B0 l : Nat} {so : Option Addr} {D : Dk} (h : Wrt S w g kb so cap D B0 W) (hS : ∀ k, S k → k < w.heap.size) (hl : w.heap.size ≤ l) (hB : l ≠ B0) (o : Obj) : Wrt S w g kb so cap D B0 (W.putObj l o) :=
  ⟨h.held.put (fun x => by have := hS l x; omega) o, h.box.putObj (Ne.symm hB) o, ⟨h.chg.os, h.chg.tape, h.chg.output, by simpa using h.chg.size, fun k hk hs => (World.putObj_heap_other (by omega)).trans (h.chg.block k hk hs)⟩⟩

theorem HeldAt.clear {S : Nat → Prop} {w : World} {g kb cap : Nat} {so : Option Addr} {D : Dk} (h : HeldAt S w g kb so cap D) : HeldAt S (w.setCell ⟨g, 1, none⟩ (.slice none 0 0)) g kb none 0 { D with U := [] } := by
  obtain ⟨hok, h1, h2, h3, h4, h5, h6, h7, h8, h9, h10, h11⟩ := h
  refine ⟨⟨hok.one, hok.most, hok.sec, by simp, by simp, hok.ops⟩, ?_, fun k s hk => rangeAt_block (h2 k s hk) (heap_setCell_other _ _ _ _ (Ne.symm h5)), there_block h3 (heap_setCell_other _ _ _ _ (Ne.symm h5)), World.ownsRow_nil _ _ _ _, h5, by simp, h7, h8, by simp, by simpa using h10, by simp⟩
  have := h1.set_ 1 (.slice none 0 0)
  simpa using this
theorem HeldAt.setOps {S : Nat → Prop} {w : World} {g kb cap : Nat} {so : Option Addr} {D : Dk} (h : HeldAt S w g kb so cap D) (n : Nat) (hn : n ≤ 1000000) : HeldAt S (w.setCell ⟨g, 2, none⟩ (.int .i64 (n : Int))) g kb so cap { D with N := n } := by
  obtain ⟨hok, h1, h2, h3, h4, h5, h6, h7, h8, h9, h10, h11⟩ := h
  refine ⟨⟨hok.one, hok.most, hok.sec, hok.uns, hok.few, hn⟩, ?_, fun k s hk => rangeAt_block (h2 k s hk) (heap_setCell_other _ _ _ _ (Ne.symm h5)), there_block h3 (heap_setCell_other _ _ _ _ (Ne.symm h5)), ownsRow_block h4 ?_, h5, h6, h7, h8, h9, by simpa using h10, fun a ha => by simpa using h11 a ha⟩
  · have := h1.set_ 2 (.int .i64 (n : Int))
    simpa using this
  · intro k hk
    cases so with
    | none => simp [Value.ownBlock] at hk
    | some a =>
      obtain rfl : a.block = k := Option.some.inj hk
      exact heap_setCell_other _ _ _ _ (h6 a rfl).1

set_option maxRecDepth 100000 in
set_option maxHeartbeats 4000000 in
theorem sync_any (S : Nat → Prop) (g : Nat) (D : Dk) (w : World) (h : Held S w g D) (hN : D.N < 1000000) :
    Calls Try.prog 27 #[.pointer (some ⟨g, 0, none⟩)] w fun e w' => e = .returned (.int .i64 0) ∧
      Held S w' g { S := Dk.puts D.S D.U (List.replicate D.U.length 64), U := [], N := D.N + 1 } ∧ Chg S w w' := by
  obtain ⟨kb, so, cap, hH⟩ := h
  have hlt := hH.lt
  obtain ⟨S', hS'⟩ : ∃ S' : Nat → Prop, S' = fun k => S k ∧ k < w.heap.size := ⟨_, rfl⟩
  have hH' : HeldAt S' w g kb so cap D := hH.sub (fun k hk hs => by rw [hS']; exact ⟨hs, hk⟩)
  have hSb : ∀ k, S' k → k < w.heap.size := fun k hk => by rw [hS'] at hk; exact hk.2
  have hU := hH.ok.uns
  have hfew := hH.ok.few
  have HH := Lib.hid (And.intro hH (And.intro hH' (And.intro hSb (And.intro hU (And.intro hfew hS')))))
  clear hH hH' hSb hU hfew hS'
  refine (callsIn_wide (n := 9)).1 (callsIn_of_wp_marks Try.func27 rfl trivial ?_ rfl)
  simp only [Try.ntmps27, List.size_toArray, List.length_cons, List.length_nil, Nat.reduceAdd, Nat.reduceSub, Array.replicate_succ, Array.replicate_zero, List.push_toArray, List.append_toArray, List.nil_append, List.cons_append]
  gi_wp2_with (refine ⟨trivial, ?_⟩; gi_at_call 40; refine (callsIn_wide.2 (pending_any _ _)).mono ?_; rintro e w1 ⟨rfl, rfl⟩)
  obtain ⟨hH, hH', hSb, hU, hfew, hS'⟩ := HH.out
  obtain ⟨Z, hZ, hZs⟩ := zero_write
  obtain ⟨w0, hw0⟩ : ∃ w0, (w.alloc (.cells #[.pointer (some ⟨g, 0, none⟩)] 36)).alloc (.cells #[.pointer (some ⟨g, 0, none⟩)] 102) = w0 := ⟨_, rfl⟩
  have hsz : w0.heap.size = w.heap.size + 2 := by rw [← hw0]; simp
  have hb0 : Below w.heap.size w w0 := by rw [← hw0]; exact bl_al (bl_al (bl_re w) _) _
  have b0 : Blk w0 w.heap.size 36 #[.pointer (some ⟨g, 0, none⟩)] := by rw [← hw0]; exact (Blk.new w _ _).alloc _
  have b1 : Blk w0 (w.heap.size + 1) 102 #[.pointer (some ⟨g, 0, none⟩)] := by
    rw [← hw0]
    have := Blk.new (w.alloc (.cells #[.pointer (some ⟨g, 0, none⟩)] 36)) 102 #[.pointer (some ⟨g, 0, none⟩)]
    rw [World.size_alloc] at this
    exact this
  have h0 : Wrt S' w g kb so cap D w.heap.size w0 := ⟨hH'.below hb0, b0, Chg.ofNew hb0⟩
  rw [hw0]
  clear hw0
  refine rf_pending (Bm := w.heap.size + 1) (g := g) (so := so) (cap := cap) (U := D.U) (w.heap.size + 2) hsz rfl (b1.cell 0) (h0.held.2.1.cell 1) (fun p hp => (hU p hp).1) hfew
    (fun k W => k ≤ D.U.length ∧ Wrt S' w g kb so cap { D with S := D.upto (List.replicate D.U.length 64) k } w.heap.size W) ?own ?all ?put ?zero ?round ?fin
  case own => exact fun k W h => h.2.held.2.2.2.2.1
  case all => exact fun k W o h => ⟨h.1, h.2.alloc o⟩
  case put => exact fun k W o h => ⟨h.1, h.2.put hSb (by omega) (by omega) o⟩
  case zero => exact ⟨Nat.zero_le _, h0⟩
  case round =>
    rintro k p W x y z hp ⟨hk, hW⟩ hx hy hlW
    have hkl := (List.getElem?_eq_some_iff.1 hp).1
    have hpe : D.U[k] = p := (List.getElem?_eq_some_iff.1 hp).2
    obtain ⟨hpl, hp1⟩ := hU p (List.mem_of_getElem? hp)
    have hst := upto_snoc D (List.replicate D.U.length 64) k hkl (by simpa using hkl)
    rw [hpe, List.getElem_replicate] at hst
    have hlen := upto_length D (List.replicate D.U.length 64) k
    generalize D.upto (List.replicate D.U.length 64) k = Sk at *
    obtain ⟨s, hs⟩ : ∃ s, Sk[p.1]? = some s := ⟨_, List.getElem?_eq_getElem (by omega)⟩
    have hks := fun W1 h => keeps_held S' g kb so cap { D with S := Sk } p s 64 W1 (by omega) hpl hs h
    have hnext : D.upto (List.replicate D.U.length 64) (k + 1) = Sk.set p.1 (p.2.take 64 ++ s.drop 64) := by rw [hst]; simp [Dk.put, hs]
    have hcl := ucell_length p hpl
    have hc1 := ucell_one p
    obtain ⟨W1, hW1⟩ : ∃ W1, (W.alloc (.cells (ucell p).toArray 76)).putObj (w.heap.size + 2 + 1) z = W1 := ⟨_, rfl⟩
    have w1 := (hW.alloc (.cells (ucell p).toArray 76)).put hSb (l := w.heap.size + 2 + 1) (by omega) (by omega) z
    have r1 : W1.rangeAt W.heap.size 0 (ucell p) := by
      rw [← hW1]
      exact rangeAt_row ((Blk.new W _ _).putObj (by omega) _) _ (fun j v hv => by simpa using hv)
    have x1 : W1.heap[w.heap.size + 2]? = some x := by rw [← hW1]; exact (World.putObj_heap_other (by omega)).trans ((Below.heap_alloc _ _ _ (by omega)).trans hx)
    have z1 : W1.heap[w.heap.size + 2 + 1]? = some z := by rw [← hW1]; exact World.putObj_heap_same (by simp; omega)
    rw [hW1] at w1
    have q1 : W1.cell? ⟨w.heap.size, 0, none⟩ = some (.pointer (some ⟨g, 0, none⟩)) := w1.box.cell 0
    have l2 : (Instr.loadAt 76 (.pointer (some ⟨W.heap.size, 0, none⟩))).run Try.prog W1.drew = .ok (.agg (ucell p).toArray) W1.drew := by
      obtain ⟨d, du, dd, di⟩ := rowT_of rowT_write hcl
      exact run_loadAt_mid _ _ _ _ _ d ((World.rangeAt_drew _ _ _ _).2 r1) du dd di
    have K1 := Lib.hid (And.intro x1 (And.intro z1 (And.intro w1 (And.intro hnext (And.intro hcl (And.intro hc1 (And.intro hks (And.intro hSb hkl))))))))
    have K2 := Lib.hid hZs
    have K3 := Lib.hid hW1
    have K4 := Lib.hid hy
    have hm : Try.prog.follows .mixedOrders = true := by kernel_rfl
    clear x1 z1 w1 hnext hcl hc1 hks hW1 hy hx hW hs hst hlen hp hpe hkl hpl hp1 hU hH hH' hSb hfew hS' HH hb0 b0 b1 h0 hZs r1 hlW hk
    gi_wp2_with (first
      | (with_reducible refine in_alloc 76 hZ ?_)
      | ((with_reducible refine in_store_new 76 (rowT_of rowT_write K1.out.2.2.2.2.1) (K2.out.trans K1.out.2.2.2.2.1.symm) K1.out.2.2.2.2.2.1 ?_ ?_ ?_); rfl; rfl))
    rw [K3.out]
    refine ⟨(Below.heap_alloc _ _ _ (Array.getElem?_eq_some_iff.1 K4.out).1).trans K4.out, ?_⟩
    gi_wp2_with fail
    gi_region_with_o (refine ⟨trivial, ?_⟩; gi_at_call 41; refine (CallsIn.inRound _ (callsIn_wide.2 (K1.out.2.2.2.2.2.2.1 _ K1.out.2.2.1.held.drew))).mono ?_; rintro e W2 ⟨rfl, hh2, hc2⟩)
    all_goals
      obtain ⟨x1, z1, w1, hnext, _, _, _, hSb, hkl⟩ := K1.out
      simp only [Exit.inBlock]
      refine ⟨rfl, ⟨hkl, ⟨by rw [hnext]; exact hh2, w1.box.drew.chg hc2 (fun x => by have := hSb _ x; omega), (w1.chg.trans (Chg.ofNew (bl_dr (bl_re _)))).trans hc2⟩⟩, hc2.toHeap (a := W1.drew) x1 (fun x => by have := hSb _ x; omega), hc2.toHeap (a := W1.drew) z1 (fun x => by have := hSb _ x; omega)⟩
  case fin =>
    rintro W ⟨_, hW⟩ hd
    rw [upto_all D _ (by simp)] at hW
    have q0 : W.cell? ⟨w.heap.size, 0, none⟩ = some (.pointer (some ⟨g, 0, none⟩)) := hW.box.cell 0
    have q1 : W.cell? ⟨g, 1, none⟩ = some (.slice so D.U.length cap) := hW.held.2.1.cell 1
    have q2 : W.cell? ⟨g, 2, none⟩ = some (.int .i64 D.N) := hW.held.2.1.cell 2
    have f1 := hW.held.2.1.frozen 1
    have f2 := hW.held.2.1.frozen 2
    have hne : w.heap.size ≠ g := by omega
    have K1 := Lib.hid (And.intro hW (And.intro hd (And.intro hS' (And.intro hSb hH))))
    clear hW hd hS' hSb hH hH' hU hfew HH hb0 b0 b1 h0 hZs hZ
    gi_wp2
    obtain ⟨hW, hd, hS', hSb, hH⟩ := K1.out
    have c1 : Chg S' W ((W.setCell ⟨g, 1, none⟩ (.slice none 0 0)).setCell ⟨g, 2, none⟩ (.int .i64 ((D.N : Int) + 1))) := (Chg.ofSetCell _ _ _ hW.held.2.2.2.2.2.2.2.1).trans (Chg.ofSetCell _ _ _ hW.held.2.2.2.2.2.2.2.1)
    have hd2 := c1.toHeap hd (fun x => by have := hSb _ x; omega)
    refine ⟨by simp, .inl ⟨_, _, rfl, run_takeDeferred hd2, ?_⟩⟩
    refine ⟨_, results_tmp rfl _ _ _, rfl, ?_, ?_⟩
    · have := ((hW.held.clear.setOps (D.N + 1) (by omega)).put (l := w.heap.size + 2) (fun x => by have := hSb _ x; omega) (.deferred none)).sub (S' := S) (fun k _ hk => by rw [hS'] at hk; exact hk.1)
      exact ⟨_, _, _, this⟩
    · have c3 := hW.chg.trans c1
      refine ⟨c3.os, c3.tape, c3.output, by simpa using c3.size, fun k hk hs => (World.putObj_heap_other (by omega)).trans (c3.block k hk fun x => hs ?_)⟩
      rw [hS'] at x
      exact x.1
end Go.Proofs.Ytdaoiimjflplhaa
