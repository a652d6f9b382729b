/- namedesktop.awake: a name is held through a desk. -/
import Derived.Test.YtddieenjdaociaaGreatDoorM22
namespace Go.Proofs.YtddieenjdaociaaGreatDoor
open Go Go.RowKit Go.Shelf
set_option linter.unusedVariables false

section
variable {w w' : World} {B : Nat} {I : Ids} {L : List Cl} {i : Nat} {k : Cl} {xs : List Opn} {n lim now cnt : Int}
variable {st : Int} {x : Nm} {ttl : Int} {r : Option Rc} {r0 : Rc} {t : ByteArray} {nm : List UInt8}
theorem does_hold {gr : Int} (hd : Dis L) (hL : L.length ≤ 64) (hxs : xs.length ≤ 100) (hx : nmOf (str nm) = x) (hq : Rq.parse (lst t) = ⟨1, ttl, [nm], 0⟩) (hs0 : 0 < (str nm).size) (hn : (str nm).size ≤ 63) (ha : Alp (nums (lst (str nm)))) (hst : 0 ≤ st ∧ st ≤ 1000000)
    (hr : r.getD Rc.none = r0) (hlv : r0.live now = false) (t1 : 1 ≤ ttl) (t2 : now + ttl ≤ 1073741824) (hgr : 1 - r0.st = gr) (hcap : (gr = 1 ∧ cnt < lim) ∨ gr = 0) (hrs : r0.st = 0 ∨ r0.st = 1) (h0 : 0 ≤ now) (hcnt : 0 ≤ cnt ∧ cnt ≤ 1000) :
    Does B I L i k xs t n lim now cnt (cnt + gr) x r (some ⟨1, (i : Int), x.a, now + ttl⟩) ⟨0, -1, ByteArray.empty, Rc.none, now⟩ 8 st := by
  subst hx
  intro most w hm hs hsh
  refine (rounds_hold hs hsh hL hxs hq hs0 hn ha hm hst hr hlv t1 t2 hgr hcap hrs h0 hcnt).mono ?_
  rintro e w' ⟨a, ⟨ans, h1, h2⟩, h3⟩
  obtain ⟨o, o1, o2, o3⟩ := h2.rest hd
  obtain ⟨_, _, _, _, _, _, _, _, _, _, _, _, _, _, hv⟩ := h2.ex
  exact ⟨a, ⟨o, by rw [o1]; exact h1, o2, o3⟩, hv, h3⟩
theorem does_held (hd : Dis L) (hL : L.length ≤ 64) (hxs : xs.length ≤ 100) (hx : nmOf (str nm) = x) (hq : Rq.parse (lst t) = ⟨1, ttl, [nm], 0⟩) (hs0 : 0 < (str nm).size) (hn : (str nm).size ≤ 63) (ha : Alp (nums (lst (str nm)))) (hst : 0 ≤ st ∧ st ≤ 1000000)
    (hr : r.getD Rc.none = r0) (hlv : r0.live now = true) (t1 : 1 ≤ ttl) (t2 : now + ttl ≤ 1073741824) (hrs : r0.st = 0 ∨ r0.st = 1) (h0 : 0 ≤ now) (hcnt : 0 ≤ cnt ∧ cnt ≤ 1000) :
    Does B I L i k xs t n lim now cnt cnt x r r ⟨24, 0, x.a, Rc.none, now⟩ 7 st := by
  subst hx
  intro most w hm hs hsh
  refine (rounds_held hs hsh hL hxs hq hs0 hn ha hm hst hr hlv t1 t2 hrs h0 hcnt).mono ?_
  rintro e w' ⟨a, ⟨ans, h1, h2⟩, h3⟩
  obtain ⟨o, o1, o2, o3⟩ := h2.rest hd
  obtain ⟨_, _, _, _, _, _, _, _, _, _, _, _, _, _, hv⟩ := h2.ex
  exact ⟨a, ⟨o, by rw [o1]; exact h1, o2, o3⟩, hv, h3⟩
theorem does_query {rr : Rc} (hrr : (if r0.live now then r0 else Rc.none) = rr) (hd : Dis L) (hL : L.length ≤ 64) (hxs : xs.length ≤ 100) (hx : nmOf (str nm) = x) (hq : Rq.parse (lst t) = ⟨7, 0, [nm], 0⟩) (hs0 : 0 < (str nm).size) (hn : (str nm).size ≤ 63) (ha : Alp (nums (lst (str nm)))) (hst : 0 ≤ st ∧ st ≤ 1000000)
    (hr : r.getD Rc.none = r0) (hrs : r0.st = 0 ∨ r0.st = 1) (h0 : 0 ≤ now) (hcnt : 0 ≤ cnt ∧ cnt ≤ 1000) :
    Does B I L i k xs t n lim now cnt cnt x r r ⟨0, -1, ByteArray.empty, rr, now⟩ 7 st := by
  subst hx
  subst hrr
  intro most w hm hs hsh
  refine (rounds_query hs hsh hL hxs hq hs0 hn ha hm hst hr hrs h0 hcnt).mono ?_
  rintro e w' ⟨a, ⟨ans, h1, h2⟩, h3⟩
  obtain ⟨o, o1, o2, o3⟩ := h2.rest hd
  obtain ⟨_, _, _, _, _, _, _, _, _, _, _, _, _, _, hv⟩ := h2.ex
  exact ⟨a, ⟨o, by rw [o1]; exact h1, o2, o3⟩, hv, h3⟩
end
theorem parse_awake : Rq.parse (lst ⟨#[72, 79, 76, 68, 32, 53, 32, 65]⟩) = ⟨1, 5, [[65]], 0⟩ := by kernel_rfl
theorem alp_A : Alp (nums (lst (str [65]))) := by
  intro c hc
  simp [nums, lst, str] at hc
  subst hc
  exact .inr ⟨by omega, by omega⟩
set_option maxRecDepth 100000 in
set_option maxHeartbeats 8000000 in
theorem awake_any (w : World) : Calls Tryz.prog 8 #[] w fun e w' => e = .returned (.bool true) ∧ Below w.heap.size w w' := by
  go_enter Tryz.func8, Tryz.ntmps8
  go_wp2_with fail
  refine (new_any 1 1 (by omega) (by omega) (by omega) (by omega) w).mono ?_
  rintro e w1 ⟨I, L, rfl, hL, hkp, hrest, hsh, hb1⟩
  have HR1 := Lib.hid hrest; have HS1 := Lib.hid (hsh (nmOf (str [65]))); have HB1 := Lib.hid hb1
  have hL64 : L.length ≤ 64 := by omega
  obtain ⟨k, hk⟩ : ∃ k, L[0]? = some k := ⟨L[0], List.getElem?_eq_getElem (by omega)⟩
  clear hrest hsh hb1
  go_wp2_with fail
  refine (send_start (t := ⟨#[72, 79, 76, 68, 32, 53, 32, 65]⟩) HR1.out hk hL64 HS1.out (by decide) (by omega)).mono ?_
  rintro e w2 ⟨rfl, hs2, hsh2, hp2⟩
  have HS2 := Lib.hid hs2; have HSH2 := Lib.hid hsh2; have HP2 := Lib.hid ((Past.of_below (B := w.heap.size) HB1.out).trans hp2)
  have HDS := Lib.hid HR1.out.dis
  clear hs2 hsh2 hp2 HR1 HS1 HB1
  go_wp2_with fail
  refine (does_hold (gr := 1) (r0 := Rc.none) (nm := [65]) HDS.out hL64 (by simp) rfl parse_awake (by decide) (by decide) alp_A (by omega) rfl (by decide) (by omega) (by omega) rfl (.inl ⟨rfl, by omega⟩) (.inl rfl) (by omega) (by omega) 99 w2 (by omega) HS2.out HSH2.out).mono ?_
  rintro e w3 ⟨rfl, ⟨o, ho1, ho2, hr3⟩, hsh3, hp3⟩
  have HR3 := Lib.hid hr3; have HP3 := Lib.hid (HP2.out.trans hp3)
  clear hr3 hsh3 hp3 HS2 HSH2 HP2
  go_wp2_with fail
  refine (ops_rest HR3.out (by simp)).mono ?_
  rintro e w4 ⟨A4, c4, ys, rfl, hst4, hrow4, hb4⟩
  obtain ⟨zs, o', rfl, hzl, ha', hr'⟩ := strip_last hst4
  obtain rfl : zs = [] := List.eq_nil_of_length_eq_zero hzl
  obtain ⟨g4, rfl, hg4, hcell4⟩ := last_cell (k := 0) (xs := []) hrow4 rfl
  have HP4 := Lib.hid (HP3.out.trans (Past.of_below hb4))
  have HC4 := Lib.hid hcell4
  have hsp : o'.rsp = ⟨0, -1, ByteArray.empty, Rc.none, 0⟩ := by rw [hr', ho2]
  have HC := Lib.hid (show ∀ j v, (Rs.cells ⟨0, -1, ByteArray.empty, Rc.none, 0⟩)[j]? = some v → w4.cell? ⟨g4, 15 + j, none⟩ = some v from by
    intro j v hv
    have h1 : o'.cells[15 + j]? = some v := by
      rw [show o'.cells = ([.int .i64 o'.cl, .int .i64 o'.op, .int .i64 o'.ttl, .slice o'.nA o'.nn o'.nc] ++ o'.bad.cells ++ [.int .i64 o'.begun, .int .i64 o'.dec, .int .i64 o'.ans]) ++ o'.rsp.cells from rfl, List.getElem?_append_right (by simp [Rs.cells]), hsp]
      rw [show 15 + j - ([.int .i64 o'.cl, .int .i64 o'.op, .int .i64 o'.ttl, .slice o'.nA o'.nn o'.nc] ++ o'.bad.cells ++ [.int .i64 o'.begun, .int .i64 o'.dec, .int .i64 o'.ans] : List Value).length = j by simp [Rs.cells]]
      exact hv
    have h2 := HC4.out (15 + j) v h1
    rwa [Nat.zero_mul, Nat.zero_add] at h2)
  clear hst4 hrow4 hb4 hcell4 HP3 HR3
  have d0 := HC.out 0 _ rfl; have d1 := HC.out 1 _ rfl; have d2 := HC.out 2 _ rfl; have d3 := HC.out 3 _ rfl
  have d4 := HC.out 4 _ rfl; have d5 := HC.out 5 _ rfl; have d6 := HC.out 6 _ rfl; have d7 := HC.out 7 _ rfl
  simp only [Nat.reduceAdd, Rc.none] at d0 d1 d2 d3 d4 d5 d6 d7
  go_wp2_with fail
  go_ret
  exact ⟨rfl, HP4.out.below (Nat.le_refl _)⟩
end Go.Proofs.YtddieenjdaociaaGreatDoor
