/- The walk of the reference's Overlay. -/
import Derived.Test.YthdfhijahkfjdaaOver
namespace Go.Proofs.Ythdfhijahkfjdaa
open Go Go.RowKit
set_option linter.unusedVariables false

/-- A span's own block is as it was. -/
theorem tri_far {w w' : World} {row : Option Nat} {b : Nat} {x y z : Value} (hg : w.grownBy w' row) (hb : b < w.heap.size) (hne : row ≠ some b)
    (h : w.cell? ⟨b, 0, none⟩ = some x ∧ w.cell? ⟨b, 1, none⟩ = some y ∧ w.cell? ⟨b, 2, none⟩ = some z) :
    w'.cell? ⟨b, 0, none⟩ = some x ∧ w'.cell? ⟨b, 1, none⟩ = some y ∧ w'.cell? ⟨b, 2, none⟩ = some z :=
  ⟨cell_far hg hb hne h.1, cell_far hg hb hne h.2.1, cell_far hg hb hne h.2.2⟩
theorem tri_below {w w' : World} {B b : Nat} {x y z : Value} (hg : Below B w w') (hb : b < B)
    (h : w.cell? ⟨b, 0, none⟩ = some x ∧ w.cell? ⟨b, 1, none⟩ = some y ∧ w.cell? ⟨b, 2, none⟩ = some z) :
    w'.cell? ⟨b, 0, none⟩ = some x ∧ w'.cell? ⟨b, 1, none⟩ = some y ∧ w'.cell? ⟨b, 2, none⟩ = some z :=
  ⟨(hg.cell (p := ⟨b, 0, none⟩) hb).trans h.1, (hg.cell (p := ⟨b, 1, none⟩) hb).trans h.2.1, (hg.cell (p := ⟨b, 2, none⟩) hb).trans h.2.2⟩

theorem roval_facts (x y z : Int) {wa w3 : World} {L : List Rg.Sn} {A3 : Option Addr} {c3 b : Nat} (ho3 : w3.ownsRow wa.drew.heap.size 25 3 (.slice A3 L.length c3) L.length (spans L)) (hb3 : Below wa.drew.heap.size wa.drew w3) (hwal : b < wa.heap.size)
    (h : wa.cell? ⟨b, 0, none⟩ = some (.int .i64 x) ∧ wa.cell? ⟨b, 1, none⟩ = some (.int .i64 y) ∧ wa.cell? ⟨b, 2, none⟩ = some (.int .i64 z)) (hl : L.length ≤ 1000000) :
    (w3.alloc (.cells #[.int .i64 x, .int .i64 y, .int .i64 z] 25)).ownsRow wa.heap.size 25 3 (.slice A3 L.length c3) L.length (spans L) ∧ L.length + 1 ≤ 5000000000000 ∧
      wa.heap.size ≤ (w3.alloc (.cells #[.int .i64 x, .int .i64 y, .int .i64 z] 25)).heap.size ∧ b < (w3.alloc (.cells #[.int .i64 x, .int .i64 y, .int .i64 z] 25)).heap.size ∧ (Value.slice A3 L.length c3).ownBlock ≠ some b ∧
      ((w3.alloc (.cells #[.int .i64 x, .int .i64 y, .int .i64 z] 25)).cell? ⟨b, 0, none⟩ = some (.int .i64 x) ∧ (w3.alloc (.cells #[.int .i64 x, .int .i64 y, .int .i64 z] 25)).cell? ⟨b, 1, none⟩ = some (.int .i64 y) ∧ (w3.alloc (.cells #[.int .i64 x, .int .i64 y, .int .i64 z] 25)).cell? ⟨b, 2, none⟩ = some (.int .i64 z)) ∧
      (w3.cell? ⟨b, 0, none⟩ = some (.int .i64 x) ∧ w3.cell? ⟨b, 1, none⟩ = some (.int .i64 y) ∧ w3.cell? ⟨b, 2, none⟩ = some (.int .i64 z)) := by
  have hz1 : wa.heap.size ≤ w3.heap.size := hb3.size
  have hs3 := tri_below (w := wa.drew) hb3 hwal h
  refine ⟨ho3.alloc _, by omega, by rw [World.size_alloc]; omega, by rw [World.size_alloc]; omega, fun e => ?_, tri_far (only_alloc (only_refl w3 none) _) (by omega) (by simp) hs3, hs3⟩
  have : wa.heap.size ≤ b := (ho3.lt _ e).1
  omega

/-- The same where the literal has been laid ahead of the call. -/
theorem roval_factsB (s : Rg.Sn) {wa w3 : World} {L : List Rg.Sn} {A3 : Option Addr} {c3 b : Nat} (hwal : b < wa.heap.size)
    (ho3 : w3.ownsRow (wa.alloc (.cells #[.int .i64 s.f, .int .i64 s.t, .int .i64 s.v] 25)).drew.heap.size 25 3 (.slice A3 L.length c3) L.length (spans L))
    (hb3 : Below (wa.alloc (.cells #[.int .i64 s.f, .int .i64 s.t, .int .i64 s.v] 25)).drew.heap.size (wa.alloc (.cells #[.int .i64 s.f, .int .i64 s.t, .int .i64 s.v] 25)).drew w3)
    (h : wa.cell? ⟨b, 0, none⟩ = some (.int .i64 s.f) ∧ wa.cell? ⟨b, 1, none⟩ = some (.int .i64 s.t) ∧ wa.cell? ⟨b, 2, none⟩ = some (.int .i64 s.v)) :
    w3.ownsRow wa.heap.size 25 3 (.slice A3 L.length c3) L.length (spans L) ∧ Rd w3 (wa.heap.size + 1) 3 (some ⟨wa.heap.size, 0, none⟩) 1 (spans [s]) ∧
      wa.heap.size ≤ w3.heap.size ∧ b < w3.heap.size ∧ (Value.slice A3 L.length c3).ownBlock ≠ some b ∧
      (w3.cell? ⟨b, 0, none⟩ = some (.int .i64 s.f) ∧ w3.cell? ⟨b, 1, none⟩ = some (.int .i64 s.t) ∧ w3.cell? ⟨b, 2, none⟩ = some (.int .i64 s.v)) ∧ Below wa.heap.size wa w3 := by
  have hsz : (wa.alloc (.cells #[.int .i64 s.f, .int .i64 s.t, .int .i64 s.v] 25)).drew.heap.size = wa.heap.size + 1 := by show (wa.alloc _).heap.size = _; rw [World.size_alloc]
  rw [hsz] at ho3 hb3
  have hz1 := hb3.size
  have hz2 : wa.heap.size + 1 ≤ w3.heap.size := by rw [hsz] at hz1; exact hz1
  have hs3 := tri_below hb3 (show b < wa.heap.size + 1 by omega) (tri_far (only_drew (only_alloc (only_refl wa none) _)) hwal (by simp) h)
  refine ⟨own_low ho3 (by omega), (rd_one_span_at rfl s).drew.below hb3, by omega, by omega, fun e => ?_, hs3, ((Below.refl _ wa).alloc (Nat.le_refl _) _).drew.trans (hb3.mono (by omega))⟩
  have := (ho3.lt _ e).1
  omega
/-- What the reference's Overlay knows behind a round's first statement. -/
def ROne (g : Nat) (w : World) (b : Nat) (s : Rg.Sn) (L : List Rg.Sn) (Ao : Option Addr) (v : Value) (wx : World) : Prop :=
  ∃ A c, v = .slice A ((Rg.before L s.f).length + 1) c ∧ wx.ownsRow g 25 3 (.slice A ((Rg.before L s.f).length + 1) c) ((Rg.before L s.f).length + 1) (spans (Rg.before L s.f ++ [s])) ∧ Below g w wx ∧
    (wx.cell? ⟨b, 0, none⟩ = some (.int .i64 s.f) ∧ wx.cell? ⟨b, 1, none⟩ = some (.int .i64 s.t) ∧ wx.cell? ⟨b, 2, none⟩ = some (.int .i64 s.v)) ∧ Rd wx b 3 Ao L.length (spans L) ∧ b < wx.heap.size

set_option maxHeartbeats 4000000 in
theorem rover_any (A : Option Addr) (c : Nat) (a : List Rg.Sn) (A' : Option Addr) (c' : Nat) (b : List Rg.Sn) (B : Nat) (w : World) (hr : Rd w B 3 A a.length (spans a)) (hr' : Rd w B 3 A' b.length (spans b)) (hBw : B ≤ w.heap.size)
    (hl : a.length ≤ 1000000000000000) (hl' : b.length ≤ 1000000000000000) :
    Calls Try.prog 38 #[.slice A a.length c, .slice A' b.length c'] w (RetSpE (Rg.overP a b) w) := by
  have HR := Lib.hid hr; clear hr
  have HR' := Lib.hid hr'; clear hr'
  by_cases hva : Rg.valid a = true
  · by_cases hvb : Rg.valid b = true
    · rw [Rg.overP_yes hva hvb]
      have HVA := Lib.hid hva; have HVB := Lib.hid hvb
      have HAB := Lib.hid (Rg.asc_of_valid hvb).1
      obtain ⟨_, hb256⟩ := Rg.asc_of_valid hvb
      obtain ⟨_, ha256⟩ := Rg.asc_of_valid hva
      clear hva hvb
      go_enter Try.func38, Try.ntmps38
      go_wp2_with fail
      refine (rvalid_is A c a true HVA.out B _ HR.out (by omega) (by omega)).mono ?_
      rintro e w1 ⟨rfl, hb1⟩
      have hsz1 := hb1.size
      have HB1 := Lib.hid hb1; clear hb1
      go_wp2_with fail
      refine (rvalid_is A' c' b true HVB.out B _ (HR'.out.below (HB1.out.mono hBw)) (by omega) (by omega)).mono ?_
      rintro e w2 ⟨rfl, hb2⟩
      have hsz2 := hb2.size
      have HB2 := Lib.hid (HB1.out.trans (hb2.mono hsz1)); clear hb2
      have HR2 := Lib.hid (HR.out.below (HB2.out.mono hBw))
      go_wp2_with (at_builtin; refine app_span (by rfl) _ _ rfl (base := w.heap.size) rfl (show w2.ownsRow w.heap.size 25 3 (.slice none 0 0) 0 (spans []) from World.ownsRow_nil _ _ _ _) rfl HR2.out (by omega) (by omega) ?_)
      intro A9 c9 w3 ho3 hg3 hc3
      have hsz3 := hg3.size
      have hb3 : Below w.heap.size w w3 := HB2.out.grown hg3 (by omega) (fun q hq => by simp [Value.ownBlock] at hq)
      have HS0 := Lib.hid (show OverUp w.heap.size w a b 0 (.slice A9 a.length c9) w3 from ⟨a.length, A9, c9, rfl, rfl, Rd.of_own ho3, hb3, by omega⟩)
      clear ho3 hg3 hc3 hb3
      generalize hn : b.length = n at *
      have HN := Lib.hid hn; clear hn
      generalize hg : w.heap.size = g at *
      have HG := Lib.hid hg; clear hg
      go_wp2_with fail
      go_loopw [6, 9, 22] (fun v _ i wr => ∃ k : Nat, k ≤ n ∧ i = .int .i64 k ∧ OverUp g w a b k v wr) (fun _ _ i _ => n - (intOf i).toNat)
      case atStart => exact ⟨0, by omega, rfl, HS0.out⟩
      case round =>
        obtain ⟨k, hk, rfl, m, Ao, co, rfl, hom, ho, hb, hgw⟩ := hrel
        have hob := Rg.over_bd HVA.out HVB.out k
        by_cases hlt : k < n
        · obtain ⟨bb, off, s, rfl, hbB, hs, h1, h2, h3⟩ := spans_cell (HR'.out.below (hb.mono hBw)) hlt
          obtain ⟨sb1, sb2, sb3⟩ := Rg.asc_at HAB.out hs
          have hot := Rg.over_take a b k s hs
          generalize hL : Rg.over a (b.take k) = L at *
          obtain ⟨_, hL2⟩ := hob
          have hbl := Rg.before_len L s.f
          have hal := Rg.after_len L s.t
          have HOT := Lib.hid hot
          have HO1 := Lib.hid (ho.alloc (Nat.le_refl _) (.cells #[.int .i64 s.f, .int .i64 s.t, .int .i64 s.v] 25))
          have HB1' := Lib.hid (hb.alloc hgw (.cells #[.int .i64 s.f, .int .i64 s.t, .int .i64 s.v] 25))
          have hbk := Bk.new wr 25 #[.int .i64 s.f, .int .i64 s.t, .int .i64 s.v]
          have HBK := Lib.hid hbk
          clear hot ho hb hs hL hbk
          subst hom
          go_wp2_with fail
          generalize hwa : wr.alloc (.cells #[.int .i64 s.f, .int .i64 s.t, .int .i64 s.v] 25) = wa at *
          have hwas : wa.heap.size = wr.heap.size + 1 := by rw [← hwa]; simp
          clear hwa
          have hwal : wr.heap.size < wa.heap.size := by omega
          clear hwas
          have q0 : wa.cell? ⟨wr.heap.size, 0, none⟩ = some (.int .i64 s.f) := (HBK.out.cell 0).trans rfl
          have q1 : wa.cell? ⟨wr.heap.size, 1, none⟩ = some (.int .i64 s.t) := (HBK.out.cell 1).trans rfl
          have q2 : wa.cell? ⟨wr.heap.size, 2, none⟩ = some (.int .i64 s.v) := (HBK.out.cell 2).trans rfl
          have f1 : wr.heap.size ≤ wa.drew.heap.size := by show wr.heap.size ≤ wa.heap.size; omega
          have f2 : L.length ≤ 1000000000 := by omega
          have f3 : -1 ≤ s.f := by omega
          have f4 : s.f ≤ 1114112 := by omega
          have f6 : wr.heap.size ≤ (wa.alloc (.cells #[.int .i64 s.f, .int .i64 s.t, .int .i64 s.v] 25)).drew.heap.size := by show wr.heap.size ≤ (wa.alloc _).heap.size; rw [World.size_alloc]; omega
          have HO2 := Lib.hid (HO1.out.alloc (show wr.heap.size ≤ wa.heap.size by omega) (.cells #[.int .i64 s.f, .int .i64 s.t, .int .i64 s.v] 25))
          have f7 : (Rg.before L s.f).length + 1 ≤ 5000000000000 := by omega
          have f5 : (Rg.before L s.f).length ≤ 1000000 := by omega
          go_upto_region 7 with fail
          go_cut [9] (fun v wx => ROne g w wr.heap.size s L Ao v wx)
          case first =>
            go_region_held3 (fun w' => w'.cell? ⟨wr.heap.size, 0, none⟩ = some (.int .i64 s.f) ∧ w'.cell? ⟨wr.heap.size, 1, none⟩ = some (.int .i64 s.t) ∧ w'.cell? ⟨wr.heap.size, 2, none⟩ = some (.int .i64 s.v))
              (first
                | go_keep
                | exact HS4.out
                | exact HZ.out.2.2.2.2.2.2
                | exact HZB.out.2.2.2.2.2.1)
              (first
                | (go_at_call 42; refine (before_any Ao co L s.f wr.heap.size _ HO1.out.drew f1 f2 f3 f4).mono ?_; rintro e w3 ⟨A3, c3, rfl, ho3, hb3⟩; have hz := roval_facts s.f s.t s.v ho3 hb3 hwal ⟨q0, q1, q2⟩ f5; have HZ := Lib.hid hz; clear hz)
                | (go_at_call 42; refine (before_any Ao co L s.f wr.heap.size _ HO2.out.drew f6 f2 f3 f4).mono ?_; rintro e w3 ⟨A3, c3, rfl, ho3, hb3⟩; have hz := roval_factsB s hwal ho3 hb3 ⟨q0, q1, q2⟩; have HZB := Lib.hid hz; clear hz)
                | (refine step_app_span (by rfl) (.tmp 29) (.tmp 31) (by rfl) (base := wa.heap.size) (by rfl) HZ.out.1 (by rfl) (rd_one_span_at (w := w3) rfl s) HZ.out.2.1 HZ.out.2.2.1 ?_; intro A4 c4 w4 ho4 hg4 hc4; have hs4 := tri_far hg4 HZ.out.2.2.2.1 HZ.out.2.2.2.2.1 HZ.out.2.2.2.2.2.1; have HS4 := Lib.hid hs4; clear hs4)
                | (refine step_app_span (by rfl) (.tmp 29) (.tmp 31) (by rfl) (base := wa.heap.size) (by rfl) HZB.out.1 (by rfl) HZB.out.2.1 f7 HZB.out.2.2.1 ?_; intro A4 c4 w4 ho4 hg4 hc4; have hs4 := tri_far hg4 HZB.out.2.2.2.1 HZB.out.2.2.2.2.1 HZB.out.2.2.2.2.2.1; have HS4 := Lib.hid hs4; clear hs4)
                | fail)
            · have hs3 : wa.heap.size ≤ w3.heap.size := hb3.size
              have hs4 : w3.heap.size + 1 ≤ w4.heap.size := by have := hg4.size; simpa using this
              have hbA : Below g w w3 := (HB1'.out.drew).trans (hb3.mono (by show g ≤ wa.heap.size; omega))
              have hbf : Below g w w4 := (hbA.alloc (by omega) (.cells #[.int .i64 s.f, .int .i64 s.t, .int .i64 s.v] 25)).grown hg4 (by simp; omega) (fun q hq => by have : wa.heap.size ≤ q := (ho3.lt _ hq).1; omega)
              have hL4 : Rd w4 wr.heap.size 3 Ao L.length (spans L) := by
                have h1 : Rd w3 wr.heap.size 3 Ao L.length (spans L) := HO1.out.drew.below (hb3.mono (by show wr.heap.size ≤ wa.heap.size; omega))
                exact (h1.alloc (by omega) _).grown hg4 (by simp; omega) (fun q hq => by have : wa.heap.size ≤ q := (ho3.lt _ hq).1; omega)
              have HP := Lib.hid (show ROne g w wr.heap.size s L Ao (.slice A4 ((Rg.before L s.f).length + 1) c4) w4 from ⟨A4, c4, rfl, own_low ho4 (show g ≤ wa.heap.size by omega), hbf, HS4.out, hL4, by omega⟩)
              clear hbA hbf hL4 ho3 ho4 hb3 hg4 hc4 HZ HS4
              go_wp2_with fail
              go_meet
              case rel => exact HP.out
            · have hbA : Below g w w3 := HB1'.out.trans (HZB.out.2.2.2.2.2.2.mono (by omega))
              have hs3 := HZB.out.2.2.1
              have hs4 : w3.heap.size ≤ w4.heap.size := hg4.size
              have hrow : ∀ q, (Value.slice A3 (Rg.before L s.f).length c3).ownBlock = some q → wa.heap.size ≤ q := fun q hq => (HZB.out.1.lt _ hq).1
              have hbf : Below g w w4 := hbA.grown hg4 (by omega) (fun q hq => by have := hrow q hq; omega)
              have hL4 : Rd w4 wr.heap.size 3 Ao L.length (spans L) := (HO1.out.below (HZB.out.2.2.2.2.2.2.mono (by omega))).grown hg4 (by omega) (fun q hq => by have := hrow q hq; omega)
              have HP := Lib.hid (show ROne g w wr.heap.size s L Ao (.slice A4 ((Rg.before L s.f).length + 1) c4) w4 from ⟨A4, c4, rfl, own_low ho4 (show g ≤ wa.heap.size by omega), hbf, HS4.out, hL4, by omega⟩)
              clear hbA hbf hL4 ho3 ho4 hb3 hg4 hc4 HZB HS4 hrow
              go_wp2_with fail
              go_meet
              case rel => exact HP.out
          case rest =>
          obtain ⟨A4, c4, rfl, ho4, hb4, ⟨r0, r1, r2⟩, hl4, hs4⟩ := hcut
          have hgw4 : g ≤ wc.heap.size := by omega
          have HBF := Lib.hid hb4; have HO4 := Lib.hid ho4; have HL4 := Lib.hid hl4
          clear ho4 hb4 hl4 q0 q1 q2 HBK HO1 HO2 HB1'
          go_wp2_with fail
          refine (after_any Ao co L s.t wr.heap.size _ HL4.out (by omega) (by omega) (by omega) (by omega)).mono ?_
          rintro e w5 ⟨A5, c5, rfl, ho5, hb5⟩
          have hs5 := hb5.size
          have HR5 := Lib.hid (Rd.of_own ho5)
          have HO5 := Lib.hid (HO4.out.kept (only_below (only_refl wc none) hb5) (by cases (Value.slice A4 ((Rg.before L s.f).length + 1) c4).ownBlock <;> simp))
          have HB5 := Lib.hid (HBF.out.trans (hb5.mono (by omega)))
          clear ho5 hb5
          go_wp2_with (at_builtin; refine app_span (by rfl) _ _ rfl (base := g) rfl HO5.out rfl HR5.out (by omega) (by omega) ?_)
          intro A6 c6 w6 ho6 hg6 hc6
          have hbf : Below g w w6 := HB5.out.grown hg6 (by omega) (fun q hq => (HO5.out.lt q hq).1)
          have hre : Rg.rep L s = Rg.before L s.f ++ [s] ++ Rg.after L s.t := rfl
          have HP := Lib.hid (show OverUp g w a b (k + 1) (.slice A6 ((Rg.before L s.f).length + 1 + (Rg.after L s.t).length) c6) w6 from
            ⟨_, A6, c6, rfl, by rw [HOT.out, hre]; simp <;> omega, by rw [HOT.out, hre, List.append_assoc]; exact Rd.of_own (by simpa using ho6), hbf, by have := hbf.size; have := HG.out; omega⟩)
          clear hbf hre ho6 hg6 hc6
          go_wp2
          go_roundw
          case rel => exact ⟨k + 1, by omega, by go_num, HP.out⟩
          case measure => simp [intOf]; omega
        · have hbt : b.take k = b := List.take_of_length_le (by have := HN.out; omega)
          rw [hbt] at ho hom hob
          obtain ⟨ha, hl768⟩ := hob
          have HA := Lib.hid ha
          have HO := Lib.hid ho; have HB := Lib.hid hb
          subst hom
          clear ha ho hb hbt
          have hsz : w.heap.size ≤ wr.heap.size := by have := HG.out; omega
          go_wp2_with fail
          refine (merged_any Ao co (Rg.over a b) wr.heap.size _ HO.out (Nat.le_refl _) (by omega) HA.out).mono ?_
          rintro e w5 h5
          have hbw : Below w.heap.size w wr := by rw [HG.out]; exact HB.out
          have h5' := RetSp.up hbw h5
          have HP := Lib.hid h5'
          have HF := Lib.hid (fun A m c (h : RetSp (Rg.mrg (Rg.over a b)) w (.returned (.slice A m c)) w5) => h.full)
          obtain ⟨A5, c5, rfl, _, _⟩ := h5
          have HG2 := Lib.hid (HF.out _ _ _ HP.out)
          have hml := Rg.mrg_len (Rg.over a b)
          clear HF h5' hbw
          generalize (Rg.mrg (Rg.over a b)).length = mm at *
          by_cases h256 : 256 < mm
          · go_wp2
            go_ret2
            exact HG2.out.1 h256
          · go_wp2
            go_ret2
            exact HG2.out.2 (by omega)
    · have hvb' : Rg.valid b = false := by simpa using hvb
      rw [Rg.overP_no (.inr hvb')]
      have HVA := Lib.hid hva; have HVB := Lib.hid hvb'
      clear hva hvb hvb'
      go_enter Try.func38, Try.ntmps38
      go_wp2_with fail
      refine (rvalid_is A c a true HVA.out B _ HR.out (by omega) (by omega)).mono ?_
      rintro e w1 ⟨rfl, hb1⟩
      have hsz1 := hb1.size
      have HB1 := Lib.hid hb1; clear hb1
      go_wp2_with fail
      refine (rvalid_is A' c' b false HVB.out B _ (HR'.out.below (HB1.out.mono hBw)) (by omega) (by omega)).mono ?_
      rintro e w2 ⟨rfl, hb2⟩
      have HP := Lib.hid (RetSpE.none_ 1 (HB1.out.trans (hb2.mono hsz1))); clear hb2
      go_wp2
      go_ret2
      exact HP.out
  · have hva' : Rg.valid a = false := by simpa using hva
    rw [Rg.overP_no (.inl hva')]
    have HVA := Lib.hid hva'
    clear hva hva'
    go_enter Try.func38, Try.ntmps38
    go_wp2_with fail
    refine (rvalid_is A c a false HVA.out B _ HR.out (by omega) (by omega)).mono ?_
    rintro e w1 ⟨rfl, hb1⟩
    have HP := Lib.hid (RetSpE.none_ 1 hb1); clear hb1
    go_wp2
    go_ret2
    exact HP.out
end Go.Proofs.Ythdfhijahkfjdaa
