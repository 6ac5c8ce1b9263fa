/- The plain law of DiskAll: what a sync, a crash and a write leave of what is read. No program in sight. -/
import Derived.Test.YtmbjbckjfkijmaaLawD1
namespace Go.Proofs.Ytmbjbckjfkijmaa

/-- What is right of a disk: its lengths. -/
def Dk.fit (D : Dk) : Prop := (∀ s ∈ D.S, s.length = 64) ∧ (∀ p ∈ D.U, p.2.length = 64 ∧ p.1 < D.S.length)
def Dk.synced (D : Dk) : Dk := { S := Dk.puts D.S D.U (List.replicate D.U.length 64), U := [], N := D.N + 1 }

theorem put_full (S : List (List UInt8)) (p : Nat × List UInt8) (h : p.2.length = 64) (hS : ∀ s ∈ S, s.length = 64) : Dk.put S p 64 = S.set p.1 p.2 := by
  unfold Dk.put
  by_cases hi : p.1 < S.length
  · rw [List.getElem?_eq_getElem hi, Option.getD_some, List.drop_eq_nil_of_le (by rw [hS _ (List.getElem_mem hi)]; exact Nat.le_refl _), List.append_nil, List.take_of_length_le (by omega)]
  · rw [List.set_eq_of_length_le (by omega), List.set_eq_of_length_le (by omega)]

theorem puts_full : ∀ (U : List (Nat × List UInt8)) (S : List (List UInt8)), (∀ s ∈ S, s.length = 64) → (∀ p ∈ U, p.2.length = 64 ∧ p.1 < S.length) → ∀ j, j < S.length →
    (Dk.puts S U (List.replicate U.length 64))[j]?.getD [] = Dk.over j (S[j]?.getD []) U ∧ (∀ s ∈ Dk.puts S U (List.replicate U.length 64), s.length = 64)
  | [], S, hS, _, j, _ => ⟨rfl, hS⟩
  | p :: U, S, hS, hU, j, hj => by
    have hp := hU p (List.mem_cons_self ..)
    have hS' : ∀ s ∈ S.set p.1 p.2, s.length = 64 := fun s hs => by
      rcases List.mem_or_eq_of_mem_set hs with h | rfl
      · exact hS s h
      · exact hp.1
    have ih := puts_full U (S.set p.1 p.2) hS' (fun q hq => by rw [List.length_set]; exact hU q (List.mem_cons_of_mem _ hq)) j (by rw [List.length_set]; exact hj)
    simp only [List.length_cons, List.replicate_succ, Dk.puts, put_full S p hp.1 hS]
    refine ⟨?_, ih.2⟩
    rw [ih.1]
    simp only [Dk.over, List.foldl_cons]
    by_cases e : p.1 = j
    · subst e
      rw [if_pos rfl, List.getElem?_set_self hj]
      rfl
    · rw [if_neg e, List.getElem?_set_ne e]

theorem fit_synced {D : Dk} (h : D.fit) (h1 : 0 < D.S.length) : D.synced.fit := ⟨(puts_full D.U D.S h.1 h.2 0 h1).2, by intro p hp; simp [Dk.synced] at hp⟩
theorem rd_synced {D : Dk} (h : D.fit) (j : Nat) (hj : j < D.S.length) : D.synced.rd j = D.rd j := by
  unfold Dk.rd Dk.synced
  dsimp only
  rw [(puts_full D.U D.S h.1 h.2 j hj).1]
  rfl
theorem synced_length (D : Dk) : D.synced.S.length = D.S.length := puts_length _ _ _

theorem over_append (j : Nat) (s : List UInt8) (U : List (Nat × List UInt8)) (p : Nat × List UInt8) : Dk.over j s (U ++ [p]) = if p.1 = j then p.2 else Dk.over j s U := by
  simp [Dk.over, List.foldl_append]

/-- What a write leaves of what is read hangs on what was read and on the number of sectors alone. -/
theorem rd_write {D E : Dk} (a : Int) (s : List UInt8) (hl : D.S.length = E.S.length) (j : Nat) (h : D.rd j = E.rd j) : (D.write a s).2.rd j = (E.write a s).2.rd j := by
  have hc : D.chk a = E.chk a := by unfold Dk.chk; rw [hl]
  unfold Dk.write
  rw [hc]
  split
  · exact h
  · split
    · exact h
    · unfold Dk.rd at h ⊢
      dsimp only
      rw [over_append, over_append]
      split
      · rfl
      · exact h
theorem fit_write {D : Dk} (h : D.fit) (a : Int) (s : List UInt8) : (D.write a s).2.fit := by
  unfold Dk.write
  split
  · exact h
  · rename_i hc
    split
    · exact h
    · refine ⟨h.1, fun p hp => ?_⟩
      rcases List.mem_append.1 hp with hp | hp
      · exact h.2 p hp
      · rw [List.mem_singleton.1 hp]
        refine ⟨pad_length _ (by omega), ?_⟩
        have := D.chk_or a
        simp only [ne_eq, Decidable.not_not] at hc
        rcases this with e | ⟨_, h0, h1⟩
        · rw [hc] at e; cases e
        · dsimp only; omega
theorem fit_new (n : Nat) : (Dk.new n).fit := ⟨fun s hs => by rw [List.eq_of_mem_replicate hs, List.length_replicate], by simp [Dk.new]⟩
theorem rd_length {D : Dk} (h : D.fit) (j : Nat) (hj : j < D.S.length) : (D.rd j).length = 64 := by
  unfold Dk.rd
  refine over_length j D.U _ ?_ fun p hp => (h.2 p hp).1
  rw [List.getElem?_eq_getElem hj]
  exact h.1 _ (List.getElem_mem hj)

/-- A write, of the disk alone. -/
def Dk.w (D : Dk) (a : Int) (s : List UInt8) : Dk := (D.write a s).2
theorem w_S (D : Dk) (a : Int) (s : List UInt8) : (D.w a s).S = D.S := by
  unfold Dk.w Dk.write
  split
  · rfl
  · split <;> rfl
theorem w_U (D : Dk) (a : Int) (s : List UInt8) : (D.w a s).U.length ≤ D.U.length + 1 ∧ (D.w a s).N ≤ D.N + 1 := by
  unfold Dk.w Dk.write
  split
  · simp
  · split <;> simp

/-- What holds of the disks a, c behind k rounds; E is the disk of all the writes alone. -/
structure AllRel (n : Int) (k : Nat) (A C E : Dk) : Prop where
  fa : A.fit
  fc : C.fit
  fe : E.fit
  la : A.S.length = 8
  le : E.S.length = 8
  sc : C.S = A.S
  ua : A.U.length ≤ k
  uc : C.U.length ≤ k
  na : A.N ≤ 2 * k
  nc : C.N ≤ 2 * k
  eq : (k : Int) ≤ n → A = C
  rd : ∀ j, j < 8 → A.rd j = E.rd j

theorem AllRel.start (n : Int) : AllRel n 0 (Dk.new 8) (Dk.new 8) (Dk.new 8) := ⟨fit_new 8, fit_new 8, fit_new 8, by simp [Dk.new], by simp [Dk.new], rfl, by simp [Dk.new], by simp [Dk.new], by simp [Dk.new], by simp [Dk.new], fun _ => rfl, fun _ _ => rfl⟩
theorem AllRel.early {n : Int} {k : Nat} {A C E : Dk} (h : AllRel n k A C E) (hk : (k : Int) < n) (a : Int) (s : List UInt8) : AllRel n (k + 1) (A.w a s) (C.w a s) (E.w a s) := by
  have e := h.eq (by omega)
  have ha := w_U A a s
  have hc := w_U C a s
  have h1 := h.ua; have h2 := h.uc; have h3 := h.na; have h4 := h.nc
  exact ⟨fit_write h.fa a s, fit_write h.fc a s, fit_write h.fe a s, by rw [w_S]; exact h.la, by rw [w_S]; exact h.le, by rw [w_S, w_S]; exact h.sc, by omega, by omega, by omega, by omega, fun _ => by rw [e],
    fun j hj => rd_write a s (by rw [h.la, h.le]) j (h.rd j hj)⟩
theorem AllRel.late {n : Int} {k : Nat} {A C E : Dk} (h : AllRel n k A C E) (hk : n < (k : Int)) (a : Int) (s : List UInt8) : AllRel n (k + 1) (A.w a s) C (E.w a s) := by
  have ha := w_U A a s
  have h1 := h.ua; have h2 := h.uc; have h3 := h.na; have h4 := h.nc
  exact ⟨fit_write h.fa a s, h.fc, fit_write h.fe a s, by rw [w_S]; exact h.la, by rw [w_S]; exact h.le, by rw [w_S]; exact h.sc, by omega, by omega, by omega, by omega, fun h => by omega,
    fun j hj => rd_write a s (by rw [h.la, h.le]) j (h.rd j hj)⟩
theorem AllRel.now {n : Int} {k : Nat} {A C E : Dk} (h : AllRel n k A C E) (hk : (k : Int) = n) (a : Int) (s : List UInt8) : AllRel n (k + 1) (A.synced.w a s) C.synced (E.w a s) := by
  have e := h.eq (by omega)
  have ha := w_U A.synced a s
  have h1 := h.ua; have h2 := h.uc; have h3 := h.na; have h4 := h.nc
  have hla : 0 < A.S.length := by rw [h.la]; omega
  have hlc : 0 < C.S.length := by rw [h.sc]; exact hla
  have u1 : A.synced.U.length = 0 := rfl
  have u2 : C.synced.U.length = 0 := rfl
  have m1 : A.synced.N = A.N + 1 := rfl
  have m2 : C.synced.N = C.N + 1 := rfl
  refine ⟨fit_write (fit_synced h.fa hla) a s, fit_synced h.fc hlc, fit_write h.fe a s, by rw [w_S, synced_length]; exact h.la, by rw [w_S]; exact h.le, by rw [w_S, e], by omega, by omega, by omega, by omega, fun h => by omega, fun j hj => ?_⟩
  exact rd_write a s (by rw [synced_length, h.la, h.le]) j ((rd_synced h.fa j (by rw [h.la]; exact hj)).trans (h.rd j hj))

theorem crash_all (D : Dk) : D.crash (List.replicate D.U.length 64) = (0, { D with S := Dk.puts D.S D.U (List.replicate D.U.length 64), U := [] }) := by
  unfold Dk.crash
  rw [if_neg ?_]
  · simp [kept]
  · rintro (h | h)
    · simp at h
    · have : (List.replicate D.U.length (64 : Int)).all (fun x => decide (0 ≤ x) && decide (x ≤ 64)) = true := List.all_eq_true.2 fun x hx => by rw [List.eq_of_mem_replicate hx]; rfl
      rw [this] at h
      cases h
theorem crash_none (D : Dk) : D.crash [] = (0, { D with U := [] }) := by
  unfold Dk.crash
  rw [if_neg (by simp)]
  have : Dk.puts D.S D.U (kept []) = D.S := by cases h : D.U <;> rfl
  rw [this]
theorem rd_crash_all {D : Dk} (h : D.fit) (j : Nat) (hj : j < D.S.length) : ({ D with S := Dk.puts D.S D.U (List.replicate D.U.length 64), U := [] } : Dk).rd j = D.rd j := rd_synced h j hj
theorem rd_crash_none (D : Dk) (j : Nat) : ({ D with U := [] } : Dk).rd j = D.S[j]?.getD [] := rfl
end Go.Proofs.Ytmbjbckjfkijmaa
