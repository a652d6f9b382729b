/- A machine's Step: lock. A machine's Step: write, free, reply. A machine's Step: decide. A desk: its cells; an operation's cells. The desk: has. -/
import Derived.Test.YtddieenjdaociaaGreatDoorTqQZ
import Derived.StillTailTactics
namespace Go.Proofs.YtddieenjdaociaaGreatDoor
open Go Go.RowKit Go.Shelf
set_option linter.unusedVariables false

theorem Bk.ne {w : World} {g g' : Nat} {t t' : TypeId} {c c' : Array Value} (h : Bk w g t c) (h' : Bk w g' t' c') (ht : t ≠ t') : g ≠ g' := by
  rintro rfl
  have := h.symm.trans h'
  injection this with e
  injection e with e1 e2 e3
  exact ht e2
theorem freeS_at {n i : Nat} (h : i < n) : (freeS n)[i]? = some Slt.none := by simp [freeS, h]
theorem freeS_no {n i : Nat} : ∀ s, (freeS n)[i]? = some s → s.u = false := by
  intro s h
  simp [freeS, List.getElem?_replicate] at h
  rw [← h.2]; rfl
theorem freeS_len (n : Nat) : (freeS n).length = n := by simp [freeS]
theorem find_free (n : Nat) (hn : 0 < n) (key : ByteArray) : findS (freeS n) key = (homeS key n, false) := by
  have hlt := homeS_lt key n hn
  unfold findS
  rw [freeS_len]
  unfold probe
  rw [freeS_at hlt]
  rfl
theorem find_one (n : Nat) (hn : 0 < n) (key : ByteArray) : findS ((freeS n).set (homeS key n) ⟨true, key⟩) key = (homeS key n, true) := by
  have hlt := homeS_lt key n hn
  unfold findS
  rw [List.length_set, freeS_len]
  unfold probe
  rw [List.getElem?_set_self (by rw [freeS_len]; exact hlt)]
  simp
theorem free_back (n : Nat) (i : Nat) (s : Slt) (hi : i < n) : ((freeS n).set i s).set i Slt.none = freeS n := by
  apply List.ext_getElem?
  intro j
  rw [List.set_set]
  by_cases hj : i = j
  · subst hj
    rw [List.getElem?_set_self (by rw [freeS_len]; exact hi), freeS_at hi]
  · rw [List.getElem?_set_ne hj]
section
variable {g s lk st ls lo q B : Nat} {n lim now cnt : Int} {cl ph : Int} {tx : ByteArray} {op ttl : Int} {cq : Nat} {rv : Value} {at_ : Int} {p : Rs} {x : Nm} {w : World} {O : List Int}
set_option maxRecDepth 100000 in
set_option maxHeartbeats 4000000 in
theorem step_lock (h : MAt w g cl 2 tx op ttl (.slice (some ⟨q, 0, none⟩) 1 cq) 0 rv p) (hs : SAt w s n lim now cnt lk st) (hl : LkAt w lk ls lo 2048 (freeS 2048) O 0)
    (hn : Rd w B 3 (some ⟨q, 0, none⟩) 1 (nmsC [x])) (hk : x.k.size ≤ 1000000) (c0 : 0 ≤ cl) (c1 : cl < 64) :
    Calls Tryz.prog 26 #[.pointer (some ⟨g, 0, none⟩), .pointer (some ⟨s, 0, none⟩)] w fun e w' => e = .returned (.int .i64 1) ∧ MAt w' g cl 3 tx op ttl (.slice (some ⟨q, 0, none⟩) 1 cq) 0 rv p ∧
      LkAt w' lk ls lo 2048 ((freeS 2048).set (homeS x.k 2048) ⟨true, x.k⟩) (O.set (homeS x.k 2048) cl) 1 ∧ Oth [g, lk, ls, lo] w w' := by
  have hgn : g ∉ [lk, ls, lo] := by
    simp
    exact ⟨Bk.ne h.bk hl.k (by decide), Bk.ne h.bk hl.s (by decide), Bk.ne h.bk hl.o (by decide)⟩
  have hsn : s ∉ [lk, ls, lo] := by
    simp
    exact ⟨Bk.ne hs.bk hl.k (by decide), Bk.ne hs.bk hl.s (by decide), Bk.ne hs.bk hl.o (by decide)⟩
  have x0 := hs.c4; have x1 := h.ccl; have x2 := h.cph
  have HM := Lib.hid h; have HS := Lib.hid hs; have HL := Lib.hid hl; have HN := Lib.hid hn
  clear h hs hl hn
  go_enter Tryz.func26, Tryz.ntmps26
  go_wp2_with fail
  go_region_held3 (fun w' => w'.cell? ⟨s, 4, none⟩ = some (.pointer (some ⟨lk, 0, none⟩)) ∧ w'.cell? ⟨g, 12, none⟩ = some (.int .i64 cl))
    (first
      | with_reducible exact HS3.out
      | exact ⟨x0, x1⟩
      | go_keep
      | fail)
    (first
      | (go_at_call 52; refine (key_any (show MAt w.drew g cl 2 tx op ttl (.slice (some ⟨q, 0, none⟩) 1 cq) 0 rv p from HM.out) (show Rd w.drew B 3 (some ⟨q, 0, none⟩) 1 (nmsC [x]) from HN.out)).mono ?_; rintro e w1 ⟨rfl, m, rfl⟩)
      | (go_at_call 51; refine (acquire_new lk ls lo 2048 0 (homeS x.k 2048) (freeS 2048) O x.k cl _ (HL.out.drewN _) (by omega) (by omega) hk 0 (by omega) freeS_no (find_free 2048 (by omega) x.k) (homeS_lt _ _ (by omega)) (by omega) c0 c1).mono ?_; rintro e w3 ⟨rfl, hl3, ho3⟩; have HS3 := Lib.hid (show w3.cell? ⟨s, 4, none⟩ = some (.pointer (some ⟨lk, 0, none⟩)) ∧ w3.cell? ⟨g, 12, none⟩ = some (.int .i64 cl) from ⟨(ho3.cell (p := ⟨s, 4, none⟩) HS.out.lt hsn).trans x0, (ho3.cell (p := ⟨g, 12, none⟩) HM.out.lt hgn).trans x1⟩)))
  have ho : Oth [lk, ls, lo] w w3 := ((Oth.refl _ w).drewN (1 + m)).trans ho3
  have HM3 := Lib.hid (HM.out.oth ho hgn)
  have HO3 := Lib.hid ho
  have HL3 := Lib.hid hl3
  clear ho ho3 hl3 x0 x1 x2 HL HN HS3
  go_wp2_with fail
  refine (next_last 3 HM3.out rfl (by omega) (by omega)).mono ?_
  rintro e w4 ⟨rfl, hm4, ho4⟩
  have HM4 := Lib.hid hm4
  have HL4 := Lib.hid (HL3.out.oth ho4 (by simpa using fun e => hgn (by simp [e])) (by simpa using fun e => hgn (by simp [e])) (by simpa using fun e => hgn (by simp [e])))
  have HO4 := Lib.hid ((HO3.out.more (T := [g, lk, ls, lo]) (by simp +contextual)).trans (ho4.more (T := [g, lk, ls, lo]) (by simp)))
  clear hm4 ho4
  go_wp2_with fail
  go_ret
  exact ⟨rfl, HM4.out, HL4.out, HO4.out⟩
end
end Go.Proofs.YtddieenjdaociaaGreatDoor
namespace Go.Proofs.YtddieenjdaociaaGreatDoor
open Go Go.RowKit Go.Shelf
set_option linter.unusedVariables false

theorem freeS_set_no {n i j : Nat} {t : Slt} (hij : i ≠ j) : ∀ s, ((freeS n).set i t)[j]? = some s → s.u = false := by
  intro s h
  rw [List.getElem?_set_ne hij] at h
  exact freeS_no s h
section
variable {g s lk st ls lo ss sr q B : Nat} {n lim now cnt : Int} {cl ph : Int} {tx : ByteArray} {op ttl : Int} {cq cr : Nat} {rv : Value} {at_ : Int} {p : Rs} {x : Nm} {w : World} {O : List Int} {S : List Slt} {R : List Rc} {u : Nat}
set_option maxRecDepth 100000 in
set_option maxHeartbeats 4000000 in
theorem step_free (h : MAt w g cl 6 tx op ttl (.slice (some ⟨q, 0, none⟩) 1 cq) 0 rv p) (hs : SAt w s n lim now cnt lk st) (hl : LkAt w lk ls lo 2048 ((freeS 2048).set (homeS x.k 2048) ⟨true, x.k⟩) O 1)
    (hO : O[homeS x.k 2048]? = some cl) (hn : Rd w B 3 (some ⟨q, 0, none⟩) 1 (nmsC [x])) (hk : x.k.size ≤ 1000000) (c0 : 0 ≤ cl) (c1 : cl < 64) :
    Calls Tryz.prog 26 #[.pointer (some ⟨g, 0, none⟩), .pointer (some ⟨s, 0, none⟩)] w fun e w' => e = .returned (.int .i64 1) ∧ MAt w' g cl 7 tx op ttl (.slice (some ⟨q, 0, none⟩) 1 cq) 0 rv p ∧
      LkAt w' lk ls lo 2048 (freeS 2048) O 0 ∧ Oth [g, lk, ls, lo] w w' := by
  have hgn : g ∉ [lk, ls, lo] := by
    simp
    exact ⟨Bk.ne h.bk hl.k (by decide), Bk.ne h.bk hl.s (by decide), Bk.ne h.bk hl.o (by decide)⟩
  have hsn : s ∉ [lk, ls, lo] := by
    simp
    exact ⟨Bk.ne hs.bk hl.k (by decide), Bk.ne hs.bk hl.s (by decide), Bk.ne hs.bk hl.o (by decide)⟩
  have x0 := hs.c4; have x1 := h.ccl; have x2 := h.cph
  have HM := Lib.hid h; have HS := Lib.hid hs; have HL := Lib.hid hl; have HN := Lib.hid hn
  clear h hs hl hn
  have hlt := homeS_lt x.k 2048 (by omega)
  have hnx : homeS x.k 2048 ≠ (homeS x.k 2048 + 1) % 2048 := by omega
  go_enter Tryz.func26, Tryz.ntmps26
  go_wp2_with fail
  go_region_held3 (fun w' => w'.cell? ⟨s, 4, none⟩ = some (.pointer (some ⟨lk, 0, none⟩)) ∧ w'.cell? ⟨g, 12, none⟩ = some (.int .i64 cl))
    (first
      | with_reducible exact HS3.out
      | exact ⟨x0, x1⟩
      | go_keep
      | fail)
    (first
      | (go_at_call 52; refine (key_any (show MAt w.drew g cl 6 tx op ttl (.slice (some ⟨q, 0, none⟩) 1 cq) 0 rv p from HM.out) (show Rd w.drew B 3 (some ⟨q, 0, none⟩) 1 (nmsC [x]) from HN.out)).mono ?_; rintro e w1 ⟨rfl, m, rfl⟩)
      | (go_at_call 57; refine (release_last lk ls lo 2048 0 (homeS x.k 2048) ((freeS 2048).set (homeS x.k 2048) ⟨true, x.k⟩) O x.k cl _ (HL.out.drewN _) (by omega) (by omega) hk (find_one 2048 (by omega) x.k) hlt hO (freeS_set_no hnx) (by omega) c0 c1).mono ?_; rintro e w3 ⟨rfl, hl3, ho3⟩; have HS3 := Lib.hid (show w3.cell? ⟨s, 4, none⟩ = some (.pointer (some ⟨lk, 0, none⟩)) ∧ w3.cell? ⟨g, 12, none⟩ = some (.int .i64 cl) from ⟨(ho3.cell (p := ⟨s, 4, none⟩) HS.out.lt hsn).trans x0, (ho3.cell (p := ⟨g, 12, none⟩) HM.out.lt hgn).trans x1⟩)))
  have ho : Oth [lk, ls, lo] w w3 := ((Oth.refl _ w).drewN (1 + m)).trans ho3
  rw [free_back 2048 _ _ hlt] at hl3
  have HM3 := Lib.hid (HM.out.oth ho hgn)
  have HO3 := Lib.hid ho
  have HL3 := Lib.hid hl3
  clear ho ho3 hl3 x0 x1 x2 HL HN HS3
  go_wp2_with fail
  refine (next_last 7 HM3.out rfl (by omega) (by omega)).mono ?_
  rintro e w4 ⟨rfl, hm4, ho4⟩
  have HM4 := Lib.hid hm4
  have HL4 := Lib.hid (HL3.out.oth ho4 (by simpa using fun e => hgn (by simp [e])) (by simpa using fun e => hgn (by simp [e])) (by simpa using fun e => hgn (by simp [e])))
  have HO4 := Lib.hid ((HO3.out.more (T := [g, lk, ls, lo]) (by simp +contextual)).trans (ho4.more (T := [g, lk, ls, lo]) (by simp)))
  clear hm4 ho4
  go_wp2_with fail
  go_ret
  exact ⟨rfl, HM4.out, HL4.out, HO4.out⟩
set_option maxRecDepth 100000 in
set_option maxHeartbeats 4000000 in
theorem step_reply (h : MAt w g cl 7 tx op ttl (.slice (some ⟨q, 0, none⟩) 1 cq) 0 rv p) (s : Nat) :
    Calls Tryz.prog 26 #[.pointer (some ⟨g, 0, none⟩), .pointer (some ⟨s, 0, none⟩)] w fun e w' => e = .returned (.int .i64 4) ∧ MAt w' g cl 0 tx op ttl (.slice (some ⟨q, 0, none⟩) 1 cq) 0 rv p ∧ Oth [g] w w' := by
  have x2 := h.cph
  have HM := Lib.hid h
  clear h
  go_enter Tryz.func26, Tryz.ntmps26
  go_wp2_with fail
  refine (enter_any 0 HM.out).mono ?_
  rintro e w4 ⟨rfl, hm4, ho4⟩
  have HM4 := Lib.hid hm4
  have HO4 := Lib.hid ho4
  clear hm4 ho4
  go_wp2_with fail
  go_ret
  exact ⟨rfl, HM4.out, HO4.out⟩
set_option maxRecDepth 100000 in
set_option maxHeartbeats 4000000 in
theorem step_parse {o t : Int} {nm : List UInt8} (s : Nat) {nv : Value} (h : MAt w g cl 1 tx op ttl nv at_ rv p) (hq : Rq.parse (lst tx) = ⟨o, t, [nm], 0⟩) (h0 : 0 < (str nm).size) (hn : (str nm).size ≤ 63) (ha : Alp (nums (lst (str nm)))) :
    Calls Tryz.prog 26 #[.pointer (some ⟨g, 0, none⟩), .pointer (some ⟨s, 0, none⟩)] w fun e w' => ∃ q c, e = .returned (.int .i64 1) ∧ MAt w' g cl 2 tx o t (.slice (some ⟨q, 0, none⟩) 1 c) 0 rv p ∧
      w'.ownsRow w.heap.size 127 3 (.slice (some ⟨q, 0, none⟩) 1 c) 1 (nmsC [nmOf (str nm)]) ∧ Oth [g] w w' := by
  have x2 := h.cph
  have HM := Lib.hid h
  clear h
  go_enter Tryz.func26, Tryz.ntmps26
  go_wp2_with fail
  refine (mparse_ok HM.out hq h0 hn ha).mono ?_
  rintro e w4 ⟨q, c, rfl, hm4, hr4, ho4⟩
  have HM4 := Lib.hid hm4; have HR4 := Lib.hid hr4
  have HO4 := Lib.hid ho4
  clear hm4 ho4 hr4
  go_wp2_with fail
  go_ret
  exact ⟨q, c, rfl, HM4.out, HR4.out, HO4.out⟩
set_option maxRecDepth 100000 in
set_option maxHeartbeats 4000000 in
/-- write: the record that was read (the slice's only one) goes into the store. -/
theorem step_write {br : Nat} {r : Rc} {S' : List Slt} {R' : List Rc} {u' : Nat} (h : MAt w g cl 5 tx op ttl (.slice (some ⟨q, 0, none⟩) 1 cq) 0 (.slice (some ⟨br, 0, none⟩) 1 cr) p) (hs : SAt w s n lim now cnt lk st) (ht : StAt w st ss sr 16 S R u)
    (hP : ∀ w', StAt w' st ss sr 16 S R u → Calls Tryz.prog 56 #[.pointer (some ⟨st, 0, none⟩), .string x.k, .agg r.arr] w' fun e w'' => e = .returned (.int .i64 0) ∧ StAt w'' st ss sr 16 S' R' u' ∧ Oth [st, ss, sr] w' w'')
    (hn : Rd w B 3 (some ⟨q, 0, none⟩) 1 (nmsC [x])) (hr : Rd w B 4 (some ⟨br, 0, none⟩) 1 (rcC [r])) (hB : B ≤ w.heap.size) (hb : br ∉ [st, ss, sr]) :
    Calls Tryz.prog 26 #[.pointer (some ⟨g, 0, none⟩), .pointer (some ⟨s, 0, none⟩)] w fun e w' => e = .returned (.int .i64 1) ∧ MAt w' g cl 6 tx op ttl (.slice (some ⟨q, 0, none⟩) 1 cq) 0 (.slice (some ⟨br, 0, none⟩) 1 cr) p ∧
      StAt w' st ss sr 16 S' R' u' ∧ Oth [g, st, ss, sr] w w' := by
  have hgn : g ∉ [st, ss, sr] := by
    simp
    exact ⟨Bk.ne h.bk ht.k (by decide), Bk.ne h.bk ht.s (by decide), Bk.ne h.bk ht.r (by decide)⟩
  have hsn : s ∉ [st, ss, sr] := by
    simp
    exact ⟨Bk.ne hs.bk ht.k (by decide), Bk.ne hs.bk ht.s (by decide), Bk.ne hs.bk ht.r (by decide)⟩
  obtain ⟨b', o', e', hbB, r0, r1, r2, r3⟩ := rc_cells hr
  injection e' with e'; injection e' with e1 e2 _
  subst e1; subst e2
  have x0 := hs.c5; have x1 := h.crv; have x2 := h.cat; have x3 := h.cph
  have HM := Lib.hid h; have HS := Lib.hid hs; have HT := Lib.hid ht; have HN := Lib.hid hn; have HP := Lib.hid hP
  have hbw : br < w.heap.size := Nat.lt_of_lt_of_le hbB hB
  clear h hs ht hn hr hP
  simp only [Nat.zero_add] at r0 r1 r2 r3
  go_enter Tryz.func26, Tryz.ntmps26
  go_wp2_with fail
  go_region_held3 (fun w' => w'.cell? ⟨s, 5, none⟩ = some (.pointer (some ⟨st, 0, none⟩)) ∧ w'.cell? ⟨g, 19, none⟩ = some (.slice (some ⟨br, 0, none⟩) 1 cr) ∧ w'.cell? ⟨g, 18, none⟩ = some (.int .i64 0) ∧ w'.cell? ⟨br, 0, none⟩ = some (.int .i64 r.st) ∧ w'.cell? ⟨br, 1, none⟩ = some (.int .i64 r.ow) ∧ w'.cell? ⟨br, 2, none⟩ = some (.string r.nm) ∧ w'.cell? ⟨br, 3, none⟩ = some (.int .i64 r.dl))
    (first
      | with_reducible exact HS3.out
      | exact ⟨x0, x1, x2, r0, r1, r2, r3⟩
      | go_keep
      | fail)
    (first
      | (go_at_call 52; refine (key_any (show MAt w.drew g cl 5 tx op ttl (.slice (some ⟨q, 0, none⟩) 1 cq) 0 (.slice (some ⟨br, 0, none⟩) 1 cr) p from HM.out) (show Rd w.drew B 3 (some ⟨q, 0, none⟩) 1 (nmsC [x]) from HN.out)).mono ?_; rintro e w1 ⟨rfl, m, rfl⟩)
      | (go_at_call 56; refine (HP.out _ (HT.out.drewN _)).mono ?_; rintro e w3 ⟨rfl, ht3, ho3⟩; have HS3 := Lib.hid (show w3.cell? ⟨s, 5, none⟩ = some (.pointer (some ⟨st, 0, none⟩)) ∧ w3.cell? ⟨g, 19, none⟩ = some (.slice (some ⟨br, 0, none⟩) 1 cr) ∧ w3.cell? ⟨g, 18, none⟩ = some (.int .i64 0) ∧ w3.cell? ⟨br, 0, none⟩ = some (.int .i64 r.st) ∧ w3.cell? ⟨br, 1, none⟩ = some (.int .i64 r.ow) ∧ w3.cell? ⟨br, 2, none⟩ = some (.string r.nm) ∧ w3.cell? ⟨br, 3, none⟩ = some (.int .i64 r.dl) from ⟨(ho3.cell (p := ⟨s, 5, none⟩) HS.out.lt hsn).trans x0, (ho3.cell (p := ⟨g, 19, none⟩) HM.out.lt hgn).trans x1, (ho3.cell (p := ⟨g, 18, none⟩) HM.out.lt hgn).trans x2, (ho3.cell (p := ⟨br, 0, none⟩) hbw hb).trans r0, (ho3.cell (p := ⟨br, 1, none⟩) hbw hb).trans r1, (ho3.cell (p := ⟨br, 2, none⟩) hbw hb).trans r2, (ho3.cell (p := ⟨br, 3, none⟩) hbw hb).trans r3⟩)))
  have ho : Oth [st, ss, sr] w w3 := ((Oth.refl _ w).drewN (1 + m)).trans ho3
  have HM3 := Lib.hid (HM.out.oth ho hgn)
  have HO3 := Lib.hid ho
  have HT3 := Lib.hid ht3
  clear ho ho3 ht3 x0 x1 x2 x3 r0 r1 r2 r3 HT HN HS3
  go_wp2_with fail
  refine (next_last 6 HM3.out rfl (by omega) (by omega)).mono ?_
  rintro e w4 ⟨rfl, hm4, ho4⟩
  have HM4 := Lib.hid hm4
  have HT4 := Lib.hid (HT3.out.oth ho4 (by simpa using fun e => hgn (by simp [e])) (by simpa using fun e => hgn (by simp [e])) (by simpa using fun e => hgn (by simp [e])))
  have HO4 := Lib.hid ((HO3.out.more (T := [g, st, ss, sr]) (by simp +contextual)).trans (ho4.more (T := [g, st, ss, sr]) (by simp)))
  clear hm4 ho4
  go_wp2_with fail
  go_ret
  exact ⟨rfl, HM4.out, HT4.out, HO4.out⟩
end
end Go.Proofs.YtddieenjdaociaaGreatDoor
namespace Go.Proofs.YtddieenjdaociaaGreatDoor
open Go Go.RowKit Go.Shelf
set_option linter.unusedVariables false

section
variable {g s lk st q : Nat} {n lim now cnt : Int} {cl : Int} {tx : ByteArray} {ttl : Int} {cq cr : Nat} {p : Rs} {B : Nat} {x : Nm} {r : Rc} {w : World}
set_option maxRecDepth 100000 in
set_option maxHeartbeats 4000000 in
theorem step_query {Ar : Option Addr} {rr : Rc} (hrr : (if r.live now then r else Rc.none) = rr)
    (h : MAt w g cl 4 tx 7 0 (.slice (some ⟨q, 0, none⟩) 1 cq) 0 (.slice Ar 1 cr) p) (hs : SAt w s n lim now cnt lk st)
    (hn : Rd w B 3 (some ⟨q, 0, none⟩) 1 (nmsC [x])) (hr : Rd w B 4 Ar 1 (rcC [r])) (hB : B ≤ w.heap.size) (hst : r.st = 0 ∨ r.st = 1) (h0 : 0 ≤ now) (hcnt : 0 ≤ cnt ∧ cnt ≤ 1000) :
    Calls Tryz.prog 26 #[.pointer (some ⟨g, 0, none⟩), .pointer (some ⟨s, 0, none⟩)] w fun e w' => e = .returned (.int .i64 3) ∧ MAt w' g cl 6 tx 7 0 (.slice (some ⟨q, 0, none⟩) 1 cq) 0 (.slice Ar 1 cr) ⟨0, -1, ByteArray.empty, rr, now⟩ ∧
      SAt w' s n lim now cnt lk st ∧ Oth [g, s] w w' := by
  have x2 := h.cph
  have hgs : g ≠ s := Bk.ne h.bk hs.bk (by decide)
  have HD := Lib.hid (mdecide_query (ttl := 0) hrr h hs hgs hn hr hB hst h0 hcnt)
  clear h hs hn hr
  go_enter Tryz.func26, Tryz.ntmps26
  go_wp2_with fail
  refine HD.out.mono ?_
  rintro e w4 ⟨rfl, hm, hs, ho⟩
  have HM := Lib.hid hm; have HS := Lib.hid hs; have HO := Lib.hid ho
  clear hm hs ho
  go_wp2_with fail
  go_ret
  exact ⟨rfl, HM.out, HS.out, HO.out⟩
set_option maxRecDepth 100000 in
set_option maxHeartbeats 4000000 in
theorem step_held {Ar : Option Addr} (hlv : r.live now = true) (t1 : 1 ≤ ttl) (t2 : now + ttl ≤ 1073741824)
    (h : MAt w g cl 4 tx 1 ttl (.slice (some ⟨q, 0, none⟩) 1 cq) 0 (.slice Ar 1 cr) p) (hs : SAt w s n lim now cnt lk st)
    (hn : Rd w B 3 (some ⟨q, 0, none⟩) 1 (nmsC [x])) (hr : Rd w B 4 Ar 1 (rcC [r])) (hB : B ≤ w.heap.size) (hst : r.st = 0 ∨ r.st = 1) (h0 : 0 ≤ now) (hcnt : 0 ≤ cnt ∧ cnt ≤ 1000) :
    Calls Tryz.prog 26 #[.pointer (some ⟨g, 0, none⟩), .pointer (some ⟨s, 0, none⟩)] w fun e w' => e = .returned (.int .i64 3) ∧ MAt w' g cl 6 tx 1 ttl (.slice (some ⟨q, 0, none⟩) 1 cq) 0 (.slice Ar 1 cr) ⟨24, 0, x.a, Rc.none, now⟩ ∧
      SAt w' s n lim now cnt lk st ∧ Oth [g, s] w w' := by
  have x2 := h.cph
  have hgs : g ≠ s := Bk.ne h.bk hs.bk (by decide)
  have HD := Lib.hid (mdecide_held hlv t1 t2 h hs hgs hn hr hB hst h0 hcnt)
  clear h hs hn hr
  go_enter Tryz.func26, Tryz.ntmps26
  go_wp2_with fail
  refine HD.out.mono ?_
  rintro e w4 ⟨rfl, hm, hs, ho⟩
  have HM := Lib.hid hm; have HS := Lib.hid hs; have HO := Lib.hid ho
  clear hm hs ho
  go_wp2_with fail
  go_ret
  exact ⟨rfl, HM.out, HS.out, HO.out⟩
set_option maxRecDepth 100000 in
set_option maxHeartbeats 4000000 in
theorem step_hold {br or_ : Nat} {gr : Int} (hAr : br ∉ [g, s]) (hlv : r.live now = false) (t1 : 1 ≤ ttl) (t2 : now + ttl ≤ 1073741824) (hgr : 1 - r.st = gr) (hcap : (gr = 1 ∧ cnt < lim) ∨ gr = 0)
    (h : MAt w g cl 4 tx 1 ttl (.slice (some ⟨q, 0, none⟩) 1 cq) 0 (.slice (some ⟨br, or_, none⟩) 1 cr) p) (hs : SAt w s n lim now cnt lk st)
    (hn : Rd w B 3 (some ⟨q, 0, none⟩) 1 (nmsC [x])) (hr : Rd w B 4 (some ⟨br, or_, none⟩) 1 (rcC [r])) (hB : B ≤ w.heap.size) (hst : r.st = 0 ∨ r.st = 1) (h0 : 0 ≤ now) (hcnt : 0 ≤ cnt ∧ cnt ≤ 1000) :
    Calls Tryz.prog 26 #[.pointer (some ⟨g, 0, none⟩), .pointer (some ⟨s, 0, none⟩)] w fun e w' => ∃ A2 c2, e = .returned (.int .i64 3) ∧ MAt w' g cl 5 tx 1 ttl (.slice (some ⟨q, 0, none⟩) 1 cq) 0 (.slice A2 1 c2) ⟨0, -1, ByteArray.empty, Rc.none, now⟩ ∧
      SAt w' s n lim now (cnt + gr) lk st ∧ w'.ownsRow w.heap.size 38 4 (.slice A2 1 c2) 1 (rcC [⟨1, cl, x.a, now + ttl⟩]) ∧ Oth [g, s] w w' := by
  have x2 := h.cph
  have hgs : g ≠ s := Bk.ne h.bk hs.bk (by decide)
  have HD := Lib.hid (mdecide_hold hAr hlv t1 t2 hgr hcap h hs hgs hn hr hB hst h0 hcnt)
  clear h hs hn hr
  go_enter Tryz.func26, Tryz.ntmps26
  go_wp2_with fail
  refine HD.out.mono ?_
  rintro e w4 ⟨A2, c2, rfl, hm, hs, hr, ho⟩
  have HM := Lib.hid hm; have HS := Lib.hid hs; have HO := Lib.hid ho; have HR := Lib.hid hr
  clear hm hs ho hr
  go_wp2_with fail
  go_ret
  exact ⟨A2, c2, rfl, HM.out, HS.out, HR.out, HO.out⟩
end
end Go.Proofs.YtddieenjdaociaaGreatDoor
namespace Go.Proofs.YtddieenjdaociaaGreatDoor
open Go Go.RowKit Go.Shelf
set_option linter.unusedVariables false

/-- A desk: the shared part, the clients' row, the steps, the operations' row. -/
def DAt (w : World) (d s : Nat) (cv : Value) (steps : Int) (ov : Value) : Prop :=
  Bk w d 55 #[.pointer (some ⟨s, 0, none⟩), cv, .int .i64 steps, ov]
/-- A client: its box, its machine, the number of its operation. -/
def CAt (w : World) (c b m : Nat) (o : Int) : Prop :=
  Bk w c 61 #[.pointer (some ⟨b, 0, none⟩), .pointer (some ⟨m, 0, none⟩), .int .i64 o]
section
variable {w w' : World} {d s c b m : Nat} {cv ov : Value} {steps o : Int} {S : List Nat}
theorem DAt.bk (h : DAt w d s cv steps ov) : Bk w d 55 #[.pointer (some ⟨s, 0, none⟩), cv, .int .i64 steps, ov] := h
theorem DAt.lt (h : DAt w d s cv steps ov) : d < w.heap.size := h.bk.lt
theorem DAt.fr (h : DAt w d s cv steps ov) (i : Nat) : w.frozen? ⟨d, i, none⟩ = false := h.bk.frozen i
theorem DAt.c0 (h : DAt w d s cv steps ov) : w.cell? ⟨d, 0, none⟩ = some (.pointer (some ⟨s, 0, none⟩)) := h.bk.cell 0
theorem DAt.c1 (h : DAt w d s cv steps ov) : w.cell? ⟨d, 1, none⟩ = some cv := h.bk.cell 1
theorem DAt.c2 (h : DAt w d s cv steps ov) : w.cell? ⟨d, 2, none⟩ = some (.int .i64 steps) := h.bk.cell 2
theorem DAt.c3 (h : DAt w d s cv steps ov) : w.cell? ⟨d, 3, none⟩ = some ov := h.bk.cell 3
theorem DAt.oth (h : DAt w d s cv steps ov) (ho : Oth S w w') (hn : d ∉ S) : DAt w' d s cv steps ov := h.bk.oth ho hn
theorem DAt.sstep (h : DAt w d s cv steps ov) (x : Int) : DAt (w.setCell ⟨d, 2, none⟩ (.int .i64 x)) d s cv x ov := h.bk.set_ 2 _
theorem DAt.scv (h : DAt w d s cv steps ov) (x : Value) : DAt (w.setCell ⟨d, 1, none⟩ x) d s x steps ov := h.bk.set_ 1 _
theorem DAt.sov (h : DAt w d s cv steps ov) (x : Value) : DAt (w.setCell ⟨d, 3, none⟩ x) d s cv steps x := h.bk.set_ 3 _
theorem CAt.bk (h : CAt w c b m o) : Bk w c 61 #[.pointer (some ⟨b, 0, none⟩), .pointer (some ⟨m, 0, none⟩), .int .i64 o] := h
theorem CAt.lt (h : CAt w c b m o) : c < w.heap.size := h.bk.lt
theorem CAt.fr (h : CAt w c b m o) (i : Nat) : w.frozen? ⟨c, i, none⟩ = false := h.bk.frozen i
theorem CAt.c0 (h : CAt w c b m o) : w.cell? ⟨c, 0, none⟩ = some (.pointer (some ⟨b, 0, none⟩)) := h.bk.cell 0
theorem CAt.c1 (h : CAt w c b m o) : w.cell? ⟨c, 1, none⟩ = some (.pointer (some ⟨m, 0, none⟩)) := h.bk.cell 1
theorem CAt.c2 (h : CAt w c b m o) : w.cell? ⟨c, 2, none⟩ = some (.int .i64 o) := h.bk.cell 2
theorem CAt.oth (h : CAt w c b m o) (ho : Oth S w w') (hn : c ∉ S) : CAt w' c b m o := h.bk.oth ho hn
theorem CAt.so (h : CAt w c b m o) (x : Int) : CAt (w.setCell ⟨c, 2, none⟩ (.int .i64 x)) c b m x := h.bk.set_ 2 _
end
/-- An operation. -/
structure Opn where
  cl : Int
  op : Int
  ttl : Int
  nA : Option Addr
  nn : Nat
  nc : Nat
  bad : Rs
  begun : Int
  dec : Int
  ans : Int
  rsp : Rs
def Opn.cells (o : Opn) : List Value := [.int .i64 o.cl, .int .i64 o.op, .int .i64 o.ttl, .slice o.nA o.nn o.nc] ++ o.bad.cells ++ [.int .i64 o.begun, .int .i64 o.dec, .int .i64 o.ans] ++ o.rsp.cells
def opC (l : List Opn) : List Value := l.flatMap Opn.cells
theorem Opn.cells_length (o : Opn) : o.cells.length = 23 := by simp [Opn.cells, Rs.cells]
theorem opC_length (l : List Opn) : (opC l).length = l.length * 23 := by
  induction l with
  | nil => rfl
  | cons a r ih => simp [opC, Opn.cells_length] at *; omega
theorem opC_one (l : List Opn) : ∀ u ∈ opC l, u.oneCell' = true := by
  intro u hu
  simp [opC] at hu
  obtain ⟨a, _, hn⟩ := hu
  simp [Opn.cells, Rs.cells] at hn
  rcases hn with rfl | rfl | rfl | rfl | rfl | rfl | rfl | rfl | rfl | rfl | rfl | rfl | rfl | rfl | rfl | rfl | rfl | rfl | rfl | rfl | rfl | rfl | rfl <;> rfl
theorem opC_append (l m : List Opn) : opC (l ++ m) = opC l ++ opC m := by simp [opC]
theorem info_opn : (Tryz.prog.info? 75).map (fun i => (i.zero, i.size, i.bytes)) = some (some (.agg #[.int .i64 0, .int .i64 0, .int .i64 0, .slice none 0 0, .int .i64 0, .int .i64 0, .string ⟨#[]⟩, .int .i64 0, .int .i64 0, .string ⟨#[]⟩, .int .i64 0, .int .i64 0, .int .i64 0, .int .i64 0, .int .i64 0, .int .i64 0, .int .i64 0, .string ⟨#[]⟩, .int .i64 0, .int .i64 0, .string ⟨#[]⟩, .int .i64 0, .int .i64 0]), 23, 232) := by kernel_rfl
/-- append(out, l...) at []api.Operation, out nil or a row of the call's own. -/
theorem app_opn {w : World} {ops : Array Oper} {rest : List Oper} {o : Oper} {a : Act} {Q : Exit → Act → World → Prop} (hw : Region.wanted o (yielded ops a.tmps) = true) (s x : Operand)
    (ho : o.op = .call { callee := .builtin .append, args := #[s, x], argTypes := #[53, 53] })
    {base : Nat} {v : Value} {n : Nat} {xs : List Opn} (hs : a.eval s = v) (hown : w.ownsRow base 75 23 v n (opC xs))
    {B : Nat} {A : Option Addr} {m c : Nat} {ys : List Opn} (hx : a.eval x = .slice A m c) (hr : Rd w B 23 A m (opC ys))
    (hlen : n + m ≤ 100000000) (hbase : base ≤ w.heap.size)
    (h : ∀ A' c' w', w'.ownsRow base 75 23 (.slice A' (n + m) c') (n + m) (opC (xs ++ ys)) → w.grownBy w' v.ownBlock →
      ((Value.slice A' (n + m) c').ownBlock = v.ownBlock ∨ (Value.slice A' (n + m) c').ownBlock = some w.heap.size) → wpList Tryz.prog ops Q rest (a.put o.dst (.slice A' (n + m) c')) w') :
    wpList Tryz.prog ops Q (o :: rest) a w := by
  obtain ⟨i0, hi, hz0, hz1, hz2⟩ := info_parts info_opn
  refine wpList_app hw s x _ ho base _ i0 _ 23 232 Tryz.underlying53 hi hz0 hz1 hz2 rfl (by decide) v n (opC xs) hs hown B A m c (opC ys) hx hr (opC_one ys)
    (by unfold maxLen; omega) (by omega) hbase ?_
  intro v' w' h2 h3 h4
  obtain ⟨A', c', rfl⟩ := own_form h2
  rw [← opC_append] at h2
  exact h A' c' w' h2 h3 h4
/-- What a slice literal of one operation reads as. -/
theorem rd_one_opn {w : World} {z : Nat} (hz : w.heap.size = z) (o : Opn) : Rd (w.alloc (.cells o.cells.toArray 75)) (z + 1) 23 (some ⟨z, 0, none⟩) 1 (opC [o]) := by
  subst hz
  have hb := Bk.new w 75 o.cells.toArray
  refine ⟨by rw [opC_length]; rfl, fun _ => ⟨w.heap.size, 0, rfl, by omega, fun j u hu => ?_⟩⟩
  rw [Nat.zero_add, hb.cell]
  simpa [opC] using hu
end Go.Proofs.YtddieenjdaociaaGreatDoor
namespace Go.Proofs.YtddieenjdaociaaGreatDoor
open Go Go.RowKit Go.Shelf
set_option linter.unusedVariables false

set_option maxHeartbeats 1000000 in
theorem has_yes {w : World} {d s : Nat} {A : Option Addr} {n c : Nat} {steps : Int} {ov : Value} (i : Int) (h : DAt w d s (.slice A n c) steps ov) (h0 : 0 ≤ i) (h1 : i < n) (hn : n ≤ 1000) :
    Calls Tryz.prog 12 #[.pointer (some ⟨d, 0, none⟩), .int .i64 i] w fun e w' => e = .returned (.bool true) ∧ w' = w := by
  have c1 := h.c1
  clear h
  go_enter Tryz.func12, Tryz.ntmps12
  go_wp2_with fail
  go_ret
  exact ⟨rfl, rfl⟩
/- A time step: the shared clock goes on. -/
set_option maxRecDepth 100000 in
set_option maxHeartbeats 2000000 in
theorem do_pass {w : World} {d s lk st : Nat} {cv ov : Value} {steps n lim now cnt : Int} (x : Int) (dt : Int) (h : DAt w d s cv steps ov) (hs : SAt w s n lim now cnt lk st) (h0 : 0 ≤ now) (h1 : now ≤ 1073741824) (hd : 0 ≤ dt) (hsum : now + dt ≤ 1073741823) (hst : 0 ≤ steps ∧ steps ≤ 1000000) :
    Calls Tryz.prog 6 #[.pointer (some ⟨d, 0, none⟩), .agg #[.int .i64 3, .int .i64 0, .int .i64 dt, .string ⟨#[]⟩]] w fun e w' => e = .returned (.int .i64 0) ∧ DAt w' d s cv (steps + 1) ov ∧ SAt w' s n lim (now + dt) cnt lk st ∧ Oth [d, s] w w' := by
  have hne : d ≠ s := Bk.ne h.bk hs.bk (by decide)
  have HB := Lib.hid ((Below.refl w.heap.size w).alloc (Nat.le_refl _) (.cells #[.int .i64 3, .int .i64 0, .int .i64 dt, .string ⟨#[]⟩] 36))
  have HX := Lib.hid (Bk.new w 36 #[.int .i64 3, .int .i64 0, .int .i64 dt, .string ⟨#[]⟩])
  have HD := Lib.hid (show DAt _ d s cv steps ov from Bk.below h HB.out h.lt)
  have HS := Lib.hid (show SAt _ s n lim now cnt lk st from Bk.below hs HB.out hs.lt)
  have hdl := h.lt; have hsl := hs.lt
  clear h hs
  have hwr : IntKind.i64.wrap (steps + 1) = steps + 1 := IntWalk.i64_in _ (by omega)
  go_enter Tryz.func6, Tryz.ntmps6
  go_upto_region 1 with (fail)
  generalize hw1 : w.alloc (.cells #[.int .i64 3, .int .i64 0, .int .i64 dt, .string ⟨#[]⟩] 36) = w1 at *
  have x0 := HX.out.cell 0; have x1 := HX.out.cell 1; have x2 := HX.out.cell 2; have x3 := HX.out.cell 3
  have y0 := HD.out.c0; have y2 := HD.out.c2
  have f2 := HD.out.fr 2
  have hx : w.heap.size ≠ d := Nat.ne_of_gt hdl
  go_wp2_with fail
  have HD2 := Lib.hid (HD.out.sstep (steps + 1))
  have HS2 := Lib.hid (SAt.oth HS.out ((Oth.refl [d] w1).setCell (p := ⟨d, 2, none⟩) (.inl (by simp)) (.int .i64 (steps + 1))) (by simpa using hne.symm))
  have HX2 := Lib.hid (Bk.far HX.out (p := ⟨d, 2, none⟩) hx (.int .i64 (steps + 1)))
  have HO2 := Lib.hid ((Oth.below (S := [d, s]) HB.out (Nat.le_refl _)).setCell (p := ⟨d, 2, none⟩) (.inl (by simp)) (.int .i64 (steps + 1)))
  generalize hw2 : w1.setCell ⟨d, 2, none⟩ (.int .i64 (steps + 1)) = w2 at *
  clear x0 x1 x2 x3 y0 y2 f2 hw1 hw2
  have y0 := HD2.out.c0
  have x2 := HX2.out.cell 2
  go_still_tail 6, (by kernel_rfl)
  change wpList _ _ _ _ _ w2.drew
  go_wp2_with fail
  refine (pass_any dt w2.drew (show SAt w2.drew s n lim now cnt lk st from HS2.out) h0 h1 hd hsum).mono ?_
  rintro e w3 ⟨rfl, hs3, ho3⟩
  have HS3 := Lib.hid hs3
  have HD3 := Lib.hid (DAt.oth (show DAt w2.drew d s cv (steps + 1) ov from HD2.out) ho3 (by simpa using hne))
  have HO3 := Lib.hid (HO2.out.drew.trans (ho3.more (T := [d, s]) (by simp)))
  clear hs3 ho3 y0 x2
  go_wp2_with fail
  go_ret
  exact ⟨rfl, HD3.out, HS3.out, HO3.out⟩
end Go.Proofs.YtddieenjdaociaaGreatDoor
