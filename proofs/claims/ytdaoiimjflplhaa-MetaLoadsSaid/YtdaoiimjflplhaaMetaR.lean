/- Load of package meta, on a disk that holds both sectors. -/
import Derived.Test.YtdaoiimjflplhaaMetaL
namespace Go.Proofs.Ytdaoiimjflplhaa
open Go.RowKit Go.Shelf
set_option linter.unusedVariables false
attribute [local go_sem] Oper.semAt_some

/-- The last one of the first k sectors. -/
def Dk.hl (D : Dk) : Nat → M4
  | 0 => (0, 0, 0, 0)
  | k + 1 => if (Dk.hl D k).1 < (D.hm k).1 then D.hm k else Dk.hl D k
theorem hl_zero (D : Dk) : ∀ k, (D.hl k).1 = 0 → D.hl k = (0, 0, 0, 0)
  | 0, _ => rfl
  | k + 1, h => by
    unfold Dk.hl at h ⊢
    by_cases hlt : (D.hl k).1 < (D.hm k).1
    · rw [if_pos hlt] at h; omega
    · rw [if_neg hlt] at h ⊢; exact hl_zero D k h
def m4cs (q : M4) : Array Value := #[.int .u64 (q.1 : Int), .int .u32 (q.2.1 : Int), .int .u32 (q.2.2.1 : Int), .int .u32 (q.2.2.2 : Int)]
def mloadV (D : Dk) : Value := if (D.hl 2).1 = 0 then .tuple #[metaZ, .int .i64 40] else .tuple #[m4V (D.hl 2), .int .i64 0]

/-- What stands while the two sectors are read. -/
structure LdI (w : World) (g : Nat) (D : Dk) (S' : Nat → Prop) (q : M4) (W : World) : Prop where
  br : Blk W w.heap.size 25 #[.int .u64 0, .int .u32 0, .int .u32 0, .int .u32 0]
  bl : Blk W (w.heap.size + 1) 25 #[.int .u64 (q.1 : Int), .int .u32 (q.2.1 : Int), .int .u32 (q.2.2.1 : Int), .int .u32 (q.2.2.2 : Int)]
  be : Blk W (w.heap.size + 2) 27 #[.int .i64 0]
  bd : Blk W (w.heap.size + 3) 36 #[.pointer (some ⟨g, 0, none⟩)]
  hd : Held S' W g D
  bel : Below w.heap.size w W
section
variable {w W W' : World} {g : Nat} {D : Dk} {S' : Nat → Prop} {q : M4}
theorem LdI.below (h : LdI w g D S' q W) (hb : Below W.heap.size W W') : LdI w g D S' q W' :=
  ⟨h.br.below hb h.br.lt, h.bl.below hb h.bl.lt, h.be.below hb h.be.lt, h.bd.below hb h.bd.lt, h.hd.below hb, bl_tr h.bel hb⟩
theorem LdI.put (h : LdI w g D S' q W) (hS : ∀ k, S' k → k < w.heap.size) (n : Nat) (hn : w.heap.size + 4 ≤ n) (o : Obj) : LdI w g D S' q (W.putObj n o) :=
  ⟨h.br.putObj (by omega) o, h.bl.putObj (by omega) o, h.be.putObj (by omega) o, h.bd.putObj (by omega) o, h.hd.put (fun x => by have := hS _ x; omega) o, below_putObj h.bel (by omega) o⟩
theorem LdI.err (h : LdI w g D S' q W) (hS : ∀ k, S' k → k < w.heap.size) : LdI w g D S' q (W.setCell ⟨w.heap.size + 2, 0, none⟩ (.int .i64 0)) :=
  ⟨h.br.far (by simp) _, h.bl.far (by simp) _, by simpa using h.be.set_ 0 (.int .i64 0), h.bd.far (by simp) _, h.hd.far (fun x => by have := hS _ x; dsimp only at this; omega) _, h.bel.setCell (by simp) _⟩
theorem LdI.last (h : LdI w g D S' q W) (hS : ∀ k, S' k → k < w.heap.size) (p : M4) : LdI w g D S' p (mset4 W (w.heap.size + 1) (.int .u64 (p.1 : Int)) (.int .u32 (p.2.1 : Int)) (.int .u32 (p.2.2.1 : Int)) (.int .u32 (p.2.2.2 : Int))) := by
  have hn : ¬ S' (w.heap.size + 1) := fun x => by have := hS _ x; omega
  unfold mset4
  refine ⟨(((h.br.far (by simp) _).far (by simp) _).far (by simp) _).far (by simp) _, h.bl.mset4 _ _ _ _, (((h.be.far (by simp) _).far (by simp) _).far (by simp) _).far (by simp) _, (((h.bd.far (by simp) _).far (by simp) _).far (by simp) _).far (by simp) _, (((h.hd.far hn _).far hn _).far hn _).far hn _, below_mset4 h.bel (by omega) _ _ _ _⟩
end

theorem results_load {fn : Func} {p q : Tmp} (h : fn.results = #[.cell p 25, .tmp q]) (tmps : Array Value) (W : World) (g1 : Nat) {t1 : TypeId} {v0 v1 v2 v3 v : Value} (hB1 : Blk W g1 t1 #[v0, v1, v2, v3])
    (hp : tmps.getD p undef = .pointer (some ⟨g1, 0, none⟩)) (hq : tmps.getD q undef = v) : (results fn tmps).run Try.prog W = .ok (.tuple #[.agg #[v0, v1, v2, v3], v]) W := by
  have hp' : tmps[p]?.getD undef = .pointer (some ⟨g1, 0, none⟩) := by simpa using hp
  have hq' : tmps[q]?.getD undef = v := by simpa using hq
  have d0 : W.cell? ⟨g1, 0, none⟩ = some v0 := hB1.cell 0
  have d1 : W.cell? ⟨g1, 1, none⟩ = some v1 := hB1.cell 1
  have d2 : W.cell? ⟨g1, 2, none⟩ = some v2 := hB1.cell 2
  have d3 : W.cell? ⟨g1, 3, none⟩ = some v3 := hB1.cell 3
  simp [results, h, hp', hq', asAddr, go_sem, d0, d1, d2, d3]
theorem mset4_block (W : World) (g k : Nat) (v0 v1 v2 v3 : Value) (h : k ≠ g) : (mset4 W g v0 v1 v2 v3).heap[k]? = W.heap[k]? := by
  unfold mset4
  rw [heap_setCell_other _ _ _ _ h, heap_setCell_other _ _ _ _ h, heap_setCell_other _ _ _ _ h, heap_setCell_other _ _ _ _ h]
theorem ld_keep {W : World} {n : Nat} {v0 v1 v2 v3 x : Value} (h : W.cell? ⟨n + 1 + 1, 0, none⟩ = some x) : ((((W.setCell ⟨n, 0, none⟩ v0).setCell ⟨n, 1, none⟩ v1).setCell ⟨n, 2, none⟩ v2).setCell ⟨n, 3, none⟩ v3).drew.cell? ⟨n + 1 + 1, 0, none⟩ = some x := by
  have e := mset4_block W n (n + 1 + 1) v0 v1 v2 v3 (by omega)
  rw [← h]
  refine World.cell?_of_block ?_
  exact e
theorem mset4_size (W : World) (g : Nat) (v0 v1 v2 v3 : Value) : (mset4 W g v0 v1 v2 v3).heap.size = W.heap.size := by simp [mset4]

set_option maxRecDepth 100000 in
set_option maxHeartbeats 8000000 in
theorem mload_ok (S : Nat → Prop) (g : Nat) (D : Dk) (w : World) (h : Held S w g D) (hl : 4 < D.S.length) :
    Calls Try.prog 23 #[.pointer (some ⟨g, 0, none⟩)] w fun e w' => e = .returned (mloadV D) ∧ Below w.heap.size w w' := by
  have HH := Lib.hid h
  clear h
  obtain ⟨R0, hR0⟩ : ∃ R0, mloadV D = R0 := ⟨_, rfl⟩
  rw [hR0]
  have HR0 := Lib.hid hR0
  clear hR0
  refine (callsIn_wide (n := 9)).1 (callsIn_of_wp_marks Try.func23 rfl trivial ?_ rfl)
  simp only [Try.ntmps23, List.size_toArray, List.length_cons, List.length_nil, Nat.reduceAdd, Nat.reduceSub, Array.replicate_succ, Array.replicate_zero, List.push_toArray, List.append_toArray, List.nil_append, List.cons_append]
  gi_wp2_with fail
  refine (wpIn_wide (n := 9)).2 (wp_scope_straight ((wpIn_wide (n := 9)).1 ?_))
  gi_wp2_with fail
  refine wpIn_label ?_
  gi_wp2_with fail
  refine ⟨trivial, (callsIn_wide.2 (mheld_any g _)).mono ?_⟩
  rintro e w2 ⟨rfl, rfl⟩
  obtain ⟨S', hS'⟩ : ∃ S' : Nat → Prop, S' = fun k => S k ∧ k < w.heap.size := ⟨_, rfl⟩
  have hSb : ∀ k, S' k → k < w.heap.size := fun k hk => by rw [hS'] at hk; exact hk.2
  have hH' : Held S' w g D := HH.out.sub fun k hk hs => by rw [hS']; exact ⟨hs, hk⟩
  clear hS'
  obtain ⟨w0, hw0⟩ : ∃ w0, (((w.alloc (.cells #[.int .u64 0, .int .u32 0, .int .u32 0, .int .u32 0] 25)).alloc (.cells #[.int .u64 0, .int .u32 0, .int .u32 0, .int .u32 0] 25)).alloc (.cells #[.int .i64 0] 27)).alloc (.cells #[.pointer (some ⟨g, 0, none⟩)] 36) = w0 := ⟨_, rfl⟩
  have hsz : w0.heap.size = w.heap.size + 4 := by rw [← hw0]; simp
  have h0 : LdI w g D S' (0, 0, 0, 0) w0 := by
    rw [← hw0]
    have e1 := Blk.new w 25 #[.int .u64 0, .int .u32 0, .int .u32 0, .int .u32 0]
    have e2 := Blk.new (w.alloc (.cells #[.int .u64 0, .int .u32 0, .int .u32 0, .int .u32 0] 25)) 25 #[.int .u64 0, .int .u32 0, .int .u32 0, .int .u32 0]
    have e3 := Blk.new ((w.alloc (.cells #[.int .u64 0, .int .u32 0, .int .u32 0, .int .u32 0] 25)).alloc (.cells #[.int .u64 0, .int .u32 0, .int .u32 0, .int .u32 0] 25)) 27 #[.int .i64 0]
    have e4 := Blk.new (((w.alloc (.cells #[.int .u64 0, .int .u32 0, .int .u32 0, .int .u32 0] 25)).alloc (.cells #[.int .u64 0, .int .u32 0, .int .u32 0, .int .u32 0] 25)).alloc (.cells #[.int .i64 0] 27)) 36 #[.pointer (some ⟨g, 0, none⟩)]
    simp only [World.size_alloc] at e2 e3 e4
    exact ⟨((e1.alloc _).alloc _).alloc _, (e2.alloc _).alloc _, e3.alloc _, e4, (((hH'.alloc _).alloc _).alloc _).alloc _, bl_al (bl_al (bl_al (bl_al (bl_re w) _) _) _) _⟩
  have H0 := Lib.hid h0
  clear h0 hH' HH
  gi_wp2_with fail
  clear hw0
  refine rf_held (Bd := w.heap.size + 3) (g := g) (D := D) (S' := S') hl (w.heap.size + 4) hsz rfl
    (fun k W => LdI w g D S' (D.hl k) W ∧ (k = 0 ∨ w.heap.size + 6 ≤ W.heap.size)) ?ival ?all ?put ?zero ?round ?fin
  case ival => exact fun k W h => ⟨h.1.bd.cell 0, h.1.hd⟩
  case all => exact fun k W W' h hb => ⟨h.1.below hb, by have := h.2; have := hb.size; omega⟩
  case put => exact fun k W o h => ⟨h.1.put hSb _ (by omega) o, by simpa using h.2⟩
  case zero => exact ⟨H0.out, .inl rfl⟩
  case round =>
    rintro k W x y z hk ⟨hI, _⟩ hx hy hlW
    have hhl : D.hl (k + 1) = if (D.hl k).1 < (D.hm k).1 then D.hm k else D.hl k := rfl
    rw [hhl]
    obtain ⟨⟨a, b, c, d⟩, hm⟩ : ∃ q, D.hm k = q := ⟨_, rfl⟩
    obtain ⟨⟨a0, b0, c0, d0⟩, hl0⟩ : ∃ q, D.hl k = q := ⟨_, rfl⟩
    rw [hl0] at hI ⊢
    rw [hm]
    clear hhl hm hl0
    obtain ⟨qn, hq2⟩ : ∃ qn : M4, (if a0 < a then (a, b, c, d) else (a0, b0, c0, d0)) = qn := ⟨_, rfl⟩
    have HQ := Lib.hid hq2
    dsimp only
    unfold m4V metaV
    dsimp only
    rw [hq2]
    clear hq2
    obtain ⟨W1, hW1⟩ : ∃ W1, (W.alloc (.cells #[.int .u64 (a : Int), .int .u32 (b : Int), .int .u32 (c : Int), .int .u32 (d : Int)] 25)).putObj (w.heap.size + 4 + 1) z = W1 := ⟨_, rfl⟩
    have hba := bl_al (bl_re W) (.cells #[.int .u64 (a : Int), .int .u32 (b : Int), .int .u32 (c : Int), .int .u32 (d : Int)] 25)
    have hI1 : LdI w g D S' (a0, b0, c0, d0) W1 := by rw [← hW1]; exact (hI.below hba).put hSb _ (by omega) z
    have x1 : W1.heap[w.heap.size + 4]? = some x := by rw [← hW1]; exact (World.putObj_heap_other (by omega)).trans ((hba.block _ (by omega)).trans hx)
    have z1 : W1.heap[w.heap.size + 4 + 1]? = some z := by rw [← hW1]; exact World.putObj_heap_same (by simp; omega)
    have y1 : (W.alloc (.cells #[.int .u64 (a : Int), .int .u32 (b : Int), .int .u32 (c : Int), .int .u32 (d : Int)] 25)).heap[w.heap.size + 4 + 1]? = some y := (hba.block _ (by omega)).trans hy
    have hm1 : Blk W1 W.heap.size 25 #[.int .u64 (a : Int), .int .u32 (b : Int), .int .u32 (c : Int), .int .u32 (d : Int)] := by rw [← hW1]; exact (Blk.new W _ _).putObj (by omega) z
    have h8 : w.heap.size + 6 ≤ W1.heap.size := by rw [← hW1]; simp; omega
    have q0 : W1.cell? ⟨W.heap.size, 0, none⟩ = some (.int .u64 (a : Int)) := hm1.cell 0
    have q1 : W1.cell? ⟨W.heap.size, 1, none⟩ = some (.int .u32 (b : Int)) := hm1.cell 1
    have q2 : W1.cell? ⟨W.heap.size, 2, none⟩ = some (.int .u32 (c : Int)) := hm1.cell 2
    have q3 : W1.cell? ⟨W.heap.size, 3, none⟩ = some (.int .u32 (d : Int)) := hm1.cell 3
    have r0 : W1.cell? ⟨w.heap.size + 1, 0, none⟩ = some (.int .u64 (a0 : Int)) := hI1.bl.cell 0
    have r1 : W1.cell? ⟨w.heap.size + 1, 1, none⟩ = some (.int .u32 (b0 : Int)) := hI1.bl.cell 1
    have r2 : W1.cell? ⟨w.heap.size + 1, 2, none⟩ = some (.int .u32 (c0 : Int)) := hI1.bl.cell 2
    have r3 : W1.cell? ⟨w.heap.size + 1, 3, none⟩ = some (.int .u32 (d0 : Int)) := hI1.bl.cell 3
    have r4 : W1.cell? ⟨w.heap.size + 1 + 1, 0, none⟩ = some (.int .i64 0) := hI1.be.cell 0
    have f0 := hI1.bl.frozen 0
    have f1 := hI1.bl.frozen 1
    have f2 := hI1.bl.frozen 2
    have f3 := hI1.bl.frozen 3
    have f4 : W1.frozen? ⟨w.heap.size + 1 + 1, 0, none⟩ = false := hI1.be.frozen 0
    have n1 : w.heap.size + 1 ≠ W.heap.size := by omega
    have n2 : w.heap.size + 1 + 1 ≠ W.heap.size := by omega
    have KW := Lib.hid hW1
    have KI := Lib.hid (And.intro hI1 (And.intro x1 (And.intro z1 h8)))
    have KY := Lib.hid y1
    clear hW1 hI1 x1 z1 h8 hI hx hy y1 hm1 hba
    gi_wp2_with fail
    refine ⟨KY.out, ?_⟩
    rw [KW.out]
    by_cases hlt : a0 < a
    · have hq : qn = (a, b, c, d) := by rw [← HQ.out, if_pos hlt]
      have HQ2 := Lib.hid hq
      clear hq
      gi_wp2_with fail
      rw [HQ2.out]
      refine ⟨⟨(KI.out.1.err hSb).last hSb (a, b, c, d), KI.out.2.2.2⟩, ?_, ?_⟩
      · rw [heap_setCell_other _ _ _ _ (by simp), heap_setCell_other _ _ _ _ (by simp), heap_setCell_other _ _ _ _ (by simp), heap_setCell_other _ _ _ _ (by simp), heap_setCell_other _ _ _ _ (by simp)]
        exact KI.out.2.1
      · rw [heap_setCell_other _ _ _ _ (by simp), heap_setCell_other _ _ _ _ (by simp), heap_setCell_other _ _ _ _ (by simp), heap_setCell_other _ _ _ _ (by simp), heap_setCell_other _ _ _ _ (by simp)]
        exact KI.out.2.2.1
    · have hq : qn = (a0, b0, c0, d0) := by rw [← HQ.out, if_neg hlt]
      have HQ2 := Lib.hid hq
      clear hq
      gi_wp2_with fail
      rw [HQ2.out]
      refine ⟨⟨KI.out.1.err hSb, KI.out.2.2.2⟩, ?_, ?_⟩
      · rw [heap_setCell_other _ _ _ _ (by simp)]
        exact KI.out.2.1
      · rw [heap_setCell_other _ _ _ _ (by simp)]
        exact KI.out.2.2.1
  case fin =>
    rintro W ⟨h, _⟩ hd
    have hz2 := hl_zero D 2
    obtain ⟨⟨a, b, c, d⟩, hl2⟩ : ∃ q, D.hl 2 = q := ⟨_, rfl⟩
    rw [hl2] at h hz2
    have HR : Hid ((if a = 0 then Value.tuple #[metaZ, .int .i64 40] else .tuple #[metaV a b c d, .int .i64 0]) = R0) := Lib.hid (by rw [← HR0.out]; unfold mloadV; rw [hl2]; rfl)
    clear hl2 HR0 H0
    have hbel := bl_al (bl_re W) (.cells #[.int .u64 0, .int .u32 0, .int .u32 0, .int .u32 0] 25)
    have a0 : W.cell? ⟨w.heap.size + 1, 0, none⟩ = some (.int .u64 (a : Int)) := h.bl.cell 0
    have a1 : W.cell? ⟨w.heap.size + 1, 1, none⟩ = some (.int .u32 (b : Int)) := h.bl.cell 1
    have a2 : W.cell? ⟨w.heap.size + 1, 2, none⟩ = some (.int .u32 (c : Int)) := h.bl.cell 2
    have a3 : W.cell? ⟨w.heap.size + 1, 3, none⟩ = some (.int .u32 (d : Int)) := h.bl.cell 3
    have a4 : W.cell? ⟨w.heap.size + 1 + 1, 0, none⟩ = some (.int .i64 0) := h.be.cell 0
    have c0 : W.cell? ⟨w.heap.size, 0, none⟩ = some (.int .u64 0) := h.br.cell 0
    have c1 : W.cell? ⟨w.heap.size, 1, none⟩ = some (.int .u32 0) := h.br.cell 1
    have c2 : W.cell? ⟨w.heap.size, 2, none⟩ = some (.int .u32 0) := h.br.cell 2
    have c3 : W.cell? ⟨w.heap.size, 3, none⟩ = some (.int .u32 0) := h.br.cell 3
    have f0 := h.br.frozen 0
    have f1 := h.br.frozen 1
    have f2 := h.br.frozen 2
    have f3 := h.br.frozen 3
    have f4 : W.frozen? ⟨w.heap.size + 1 + 1, 0, none⟩ = false := h.be.frozen 0
    have l0 := h.br.lt
    have l1 := h.bl.lt
    have l2 : w.heap.size + 1 + 1 < W.heap.size := h.be.lt
    have KH := Lib.hid (And.intro h hd)
    clear h hd hbel
    by_cases ha : a = 0
    · have hq := hz2 ha
      simp only [Prod.mk.injEq] at hq
      obtain ⟨rfl, rfl, rfl, rfl⟩ := hq
      clear hz2 ha
      rw [show ((0 : Nat) : Int) = 0 from rfl] at a0 a1 a2 a3
      rw [if_pos rfl] at HR
      gi_wp2_with fail
      refine (wpIn_wide (n := 9)).2 ?_
      have b40 : Blk ((W.setCell ⟨w.heap.size + 1 + 1, 0, none⟩ (.int .i64 40)).alloc (.cells #[.int .u64 0, .int .u32 0, .int .u32 0, .int .u32 0] 25)) (w.heap.size + 1 + 1) 27 #[.int .i64 40] := by
        have h := (KH.out.1.be.set_ 0 (.int .i64 40)).alloc (.cells #[.int .u64 0, .int .u32 0, .int .u32 0, .int .u32 0] 25)
        simpa using h
      have br3 : Blk ((W.setCell ⟨w.heap.size + 1 + 1, 0, none⟩ (.int .i64 40)).alloc (.cells #[.int .u64 0, .int .u32 0, .int .u32 0, .int .u32 0] 25)) w.heap.size 25 #[.int .u64 0, .int .u32 0, .int .u32 0, .int .u32 0] := (KH.out.1.br.far (by simp; omega) _).alloc _
      have bl3 : Below w.heap.size w ((W.setCell ⟨w.heap.size + 1 + 1, 0, none⟩ (.int .i64 40)).alloc (.cells #[.int .u64 0, .int .u32 0, .int .u32 0, .int .u32 0] 25)) := bl_al (KH.out.1.bel.setCell (by simp; omega) _) _
      have hd3 : ((W.setCell ⟨w.heap.size + 1 + 1, 0, none⟩ (.int .i64 40)).alloc (.cells #[.int .u64 0, .int .u32 0, .int .u32 0, .int .u32 0] 25)).heap[w.heap.size + 4]? = some (.deferred (some [])) := by
        rw [Below.heap_alloc _ _ _ (by simp; exact (Array.getElem?_eq_some_iff.1 KH.out.2).1), heap_setCell_other _ _ _ _ (by simp)]
        exact KH.out.2
      obtain ⟨W3, hW3⟩ : ∃ W3, ((W.setCell ⟨w.heap.size + 1 + 1, 0, none⟩ (.int .i64 40)).alloc (.cells #[.int .u64 0, .int .u32 0, .int .u32 0, .int .u32 0] 25)) = W3 := ⟨_, rfl⟩
      rw [hW3] at b40 br3 bl3 hd3 ⊢
      clear hW3 a0 a1 a2 a3 a4 c0 c1 c2 c3 f0 f1 f2 f3 f4 l0 l1 l2
      have g40 : W3.cell? ⟨w.heap.size + 1 + 1, 0, none⟩ = some (.int .i64 40) := b40.cell 0
      have c0 : W3.cell? ⟨w.heap.size, 0, none⟩ = some (.int .u64 0) := br3.cell 0
      have c1 : W3.cell? ⟨w.heap.size, 1, none⟩ = some (.int .u32 0) := br3.cell 1
      have c2 : W3.cell? ⟨w.heap.size, 2, none⟩ = some (.int .u32 0) := br3.cell 2
      have c3 : W3.cell? ⟨w.heap.size, 3, none⟩ = some (.int .u32 0) := br3.cell 3
      have f0 := br3.frozen 0
      have f1 := br3.frozen 1
      have f2 := br3.frozen 2
      have f3 := br3.frozen 3
      have l0 := br3.lt
      have K3 := Lib.hid (And.intro br3 (And.intro bl3 hd3))
      clear b40 br3 bl3 hd3
      go_region_held3 (fun w' => w'.cell? ⟨w.heap.size + 1 + 1, 0, none⟩ = some (.int .i64 40)) (first | assumption | exact ld_keep (by assumption)) (fail)
      gi_wp2_with fail
      rw [Exit.noGoto_ret]
      have s1 : (mset4 W3 w.heap.size (.int .u64 0) (.int .u32 0) (.int .u32 0) (.int .u32 0)).drew.heap[w.heap.size + 4]? = some (.deferred (some [])) := (mset4_block W3 w.heap.size (w.heap.size + 4) _ _ _ _ (by omega)).trans K3.out.2.2
      refine ⟨by simp, .inl ⟨_, _, rfl, run_takeDeferred s1, ?_⟩⟩
      refine ⟨_, results_load (v := .int .i64 40) rfl _ _ _ ((K3.out.1.mset4 (.int .u64 0) (.int .u32 0) (.int .u32 0) (.int .u32 0)).drew.putObj (by omega) _) rfl rfl, ?_, ?_⟩
      · rw [← HR.out]
        rfl
      · exact below_putObj (below_mset4 K3.out.2.1 (Nat.le_refl _) _ _ _ _).drew (by omega) _
    · have d1 : ((a : Int) == 0) = false := by simp [ha]
      rw [if_neg ha] at HR
      clear hz2 ha
      gi_wp2_with fail
      rw [Exit.noGoto_ret]
      have hs4 : W.heap.size ≤ (mset4 W w.heap.size (.int .u64 (a : Int)) (.int .u32 (b : Int)) (.int .u32 (c : Int)) (.int .u32 (d : Int))).heap.size := by rw [mset4_size]; exact Nat.le_refl _
      have s1 : ((mset4 W w.heap.size (.int .u64 (a : Int)) (.int .u32 (b : Int)) (.int .u32 (c : Int)) (.int .u32 (d : Int))).alloc (.cells #[.int .u64 0, .int .u32 0, .int .u32 0, .int .u32 0] 25)).heap[w.heap.size + 4]? = some (.deferred (some [])) := by
        rw [Below.heap_alloc _ _ _ (by rw [mset4_size]; exact (Array.getElem?_eq_some_iff.1 KH.out.2).1), mset4_block _ _ _ _ _ _ _ (by omega)]
        exact KH.out.2
      refine ⟨by simp, .inl ⟨_, _, rfl, run_takeDeferred s1, ?_⟩⟩
      refine ⟨_, results_load (v := .int .i64 0) rfl _ _ _ (((KH.out.1.br.mset4 (.int .u64 (a : Int)) (.int .u32 (b : Int)) (.int .u32 (c : Int)) (.int .u32 (d : Int))).alloc _).putObj (by omega) _) rfl rfl, ?_, ?_⟩
      · rw [← HR.out]
        rfl
      · exact below_putObj (bl_al (below_mset4 KH.out.1.bel (Nat.le_refl _) _ _ _ _) _) (by omega) _
end Go.Proofs.Ytdaoiimjflplhaa
