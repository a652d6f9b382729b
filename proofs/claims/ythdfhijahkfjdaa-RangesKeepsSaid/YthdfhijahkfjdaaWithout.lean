/- The walk of ranges.without. -/
import Derived.Test.YthdfhijahkfjdaaAppSpan
import Derived.Test.YthdfhijahkfjdaaRgTwo
import Derived.Deep.DeepCutAuto
namespace Go.Proofs.Ythdfhijahkfjdaa
open Go Go.RowKit
set_option linter.unusedVariables false

theorem run_min2 {P : Program} (w : World) (ts : Array TypeId) (t : TypeId) (x y : Int) : (Builtin.min_ ts t #[.int .i64 x, .int .i64 y]).run P w = .ok (.int .i64 (min x y)) w := by
  have e : min x y = if y < x then y else x := by split <;> omega
  rw [e]; simp [Builtin.min_, Builtin.min2]
theorem run_max2 {P : Program} (w : World) (ts : Array TypeId) (t : TypeId) (x y : Int) : (Builtin.max_ ts t #[.int .i64 x, .int .i64 y]).run P w = .ok (.int .i64 (max x y)) w := by
  have e : max x y = if x < y then y else x := by split <;> omega
  rw [e]; simp [Builtin.max_, Builtin.max2]
theorem rd_one_span_at {w : World} {z : Nat} (hz : w.heap.size = z) (s : Rg.Sn) : Rd (w.alloc (.cells #[.int .i64 s.f, .int .i64 s.t, .int .i64 s.v] 25)) (z + 1) 3 (some ⟨z, 0, none⟩) 1 (spans [s]) := by
  subst hz; exact rd_one_span w s
/-- The list so far is a row of the call's own, the span's own block is as it was. -/
def PartOne (g : Nat) (w : World) (gs : Nat) (s : Rg.Sn) (o : List Rg.Sn) (v : Value) (wx : World) : Prop :=
  ∃ m A c, o.length = m ∧ v = .slice A m c ∧ wx.ownsRow g 25 3 (.slice A m c) m (spans o) ∧ Bk wx gs 25 #[.int .i64 s.f, .int .i64 s.t, .int .i64 s.v] ∧ Below g w wx ∧ (Value.slice A m c).ownBlock ≠ some gs
theorem PartOne.put {g : Nat} {w : World} {gs : Nat} {s : Rg.Sn} {o : List Rg.Sn} {wx : World} {m c : Nat} {A : Option Addr} {ob : Obj} (hom : o.length = m) (ho : wx.ownsRow g 25 3 (.slice A m c) m (spans o))
    (hbk : Bk wx gs 25 #[.int .i64 s.f, .int .i64 s.t, .int .i64 s.v]) (hb : Below g w wx) (hne : (Value.slice A m c).ownBlock ≠ some gs) (hg : g ≤ wx.heap.size)
    {w1 : World} {A1 : Option Addr} {c1 : Nat} {x : Rg.Sn} (ho1 : w1.ownsRow g 25 3 (.slice A1 (m + 1) c1) (m + 1) (spans (o ++ [x]))) (hg1 : (wx.alloc ob).grownBy w1 (Value.slice A m c).ownBlock)
    {z : Nat} (h1 : (Value.slice A1 (m + 1) c1).ownBlock = (Value.slice A m c).ownBlock ∨ (Value.slice A1 (m + 1) c1).ownBlock = some z) (hz : wx.heap.size + 1 = z) :
    PartOne g w gs s (o ++ [x]) (.slice A1 (m + 1) c1) w1 := by
  refine ⟨m + 1, A1, c1, by simp [hom], rfl, ho1, (hbk.alloc ob).grown hg1 (fun e => hne e.symm), (hb.alloc hg ob).grown hg1 (by simp; omega) (fun q hq => (ho.lt q hq).1), ?_⟩
  rcases h1 with h | h
  · rw [h]; exact hne
  · rw [h]; intro e; injection e with e; have := hbk.lt; omega

set_option maxHeartbeats 4000000 in
theorem without_any (A : Option Addr) (c : Nat) (l : List Rg.Sn) (fr tu : Int) (B : Nat) (w : World) (hr : Rd w B 3 A l.length (spans l)) (hBw : B ≤ w.heap.size) (hl : l.length ≤ 1000000000)
    (hf0 : 0 ≤ fr) (hf1 : fr ≤ 1114112) (ht0 : -1 ≤ tu) (ht1 : tu ≤ 1114112) :
    Calls Try.prog 28 #[.slice A l.length c, .int .i64 fr, .int .i64 tu] w (RetSp (Rg.without l fr tu) w) := by
  have HR := Lib.hid hr; clear hr
  generalize hn : l.length = n at *
  have HN := Lib.hid hn; clear hn
  generalize hg : w.heap.size = g at *
  have HG := Lib.hid hg; clear hg
  go_enter Try.func28, Try.ntmps28
  go_wp2
  go_loopw [7, 12] (fun vo i wr => ∃ (k m : Nat) (Ao : Option Addr) (co : Nat), k ≤ n ∧ i = .int .i64 k ∧ vo = .slice Ao m co ∧ m ≤ 2 * k ∧ (Rg.without (l.take k) fr tu).length = m ∧
      wr.ownsRow g 25 3 (.slice Ao m co) m (spans (Rg.without (l.take k) fr tu)) ∧ Below g w wr) (fun _ i _ => n - (intOf i).toNat)
  case atStart => exact ⟨0, 0, none, 0, by omega, rfl, rfl, by omega, rfl, World.ownsRow_nil _ _ _ _, Below.refl _ _⟩
  case round =>
    obtain ⟨k, m, Ao, co, hk, rfl, rfl, hmk, hom, ho, hb⟩ := hrel
    have HO := Lib.hid ho; have HB := Lib.hid hb; have HOM := Lib.hid hom
    clear ho hb hom
    have hgw : g ≤ wr.heap.size := by have := HB.out.size; have := HG.out; omega
    by_cases hlt : k < n
    · obtain ⟨b, off, s, rfl, hbB, hs, h1, h2, h3⟩ := spans_cell (HR.out.below (HB.out.mono hBw)) hlt
      have hwt := Rg.without_take l fr tu k s hs
      generalize ho : Rg.without (l.take k) fr tu = o at *
      have HWT := Lib.hid hwt
      clear hwt hs ho
      have HBK := Lib.hid (Bk.new wr 25 #[.int .i64 s.f, .int .i64 s.t, .int .i64 s.v])
      have HO1 := Lib.hid (HO.out.alloc (.cells #[.int .i64 s.f, .int .i64 s.t, .int .i64 s.v] 25))
      have HB1 := Lib.hid (HB.out.alloc hgw (.cells #[.int .i64 s.f, .int .i64 s.t, .int .i64 s.v] 25))
      have hne : (Value.slice Ao m co).ownBlock ≠ some wr.heap.size := by
        intro e; have := (HO.out.lt _ e).2; omega
      have HNE := Lib.hid hne
      clear hne
      go_upto_if 19 with fail
      go_cut [7] (fun vo wx => PartOne g w wr.heap.size s (o ++ (if s.f < fr then [⟨s.f, min s.t (fr - 1), s.v⟩] else [])) vo wx)
      case first =>
        by_cases hA : s.f < fr
        · have hmn := @run_min2 Try.prog
          go_wp2_with (at_builtin; refine app_span (by rfl) _ _ rfl (base := g) rfl (HO1.out.alloc _) rfl (rd_one_span_at (z := wr.heap.size + 1) (by simp) ⟨s.f, min s.t (fr - 1), s.v⟩) (by omega) (by simp <;> omega) ?_)
          intro A1 c1 w1 ho1 hg1 hc1
          have HP := Lib.hid (PartOne.put HOM.out HO1.out HBK.out HB1.out HNE.out (by simp <;> omega) ho1 hg1 hc1 (by simp))
          clear ho1 hg1 hc1
          go_wp2
          go_meet
          case rel => rw [if_pos hA]; exact HP.out
        · go_wp2_with fail
          go_meet
          case rel =>
            rw [if_neg (by omega), List.append_nil]
            exact ⟨m, Ao, co, HOM.out, rfl, HO1.out, HBK.out, HB1.out, HNE.out⟩
      case rest =>
        obtain ⟨m1, A1, c1, hom1, rfl, ho1, hbk1, hb1, hne1⟩ := hcut
        have hm1 : m1 ≤ 2 * k + 1 := by
          have := HOM.out
          rw [List.length_append] at hom1
          have : (if s.f < fr then [(⟨s.f, min s.t (fr - 1), s.v⟩ : Rg.Sn)] else []).length ≤ 1 := by split <;> simp
          omega
        have hgx : g ≤ wc.heap.size := by have := hb1.size; have := HG.out; omega
        have d0 := hbk1.cell 0; have d1 := hbk1.cell 1; have d2 := hbk1.cell 2
        simp at d0 d1 d2
        have hnx : Rg.without (l.take (k + 1)) fr tu = (o ++ (if s.f < fr then [⟨s.f, min s.t (fr - 1), s.v⟩] else [])) ++ (if tu < s.t then [⟨max s.f (tu + 1), s.t, s.v⟩] else []) := by
          rw [HWT.out]; unfold Rg.cut; rw [List.append_assoc]
        generalize ho2 : o ++ (if s.f < fr then [(⟨s.f, min s.t (fr - 1), s.v⟩ : Rg.Sn)] else []) = o2 at *
        have HNX := Lib.hid hnx; have HOM2 := Lib.hid hom1; have HO2 := Lib.hid ho1; have HB2 := Lib.hid hb1; have HNE2 := Lib.hid hne1; have HBK2 := Lib.hid hbk1
        clear hnx hom1 ho1 hb1 hne1 hbk1 ho2 HBK HO1 HB1 HNE HWT HO HB
        by_cases hA : tu < s.t
        · have hmn := @run_max2 Try.prog
          go_wp2_with (at_builtin; refine app_span (by rfl) _ _ rfl (base := g) rfl (HO2.out.alloc _) rfl (rd_one_span_at (z := wc.heap.size) rfl ⟨max s.f (tu + 1), s.t, s.v⟩) (by omega) (by simp <;> omega) ?_)
          intro A3 c3 w3 ho3 hg3 hc3
          have hp := (PartOne.put HOM2.out HO2.out HBK2.out HB2.out HNE2.out hgx ho3 hg3 hc3 rfl)
          have HP := Lib.hid hp
          clear ho3 hg3 hc3 hp
          go_wp2
          go_roundw
          case rel =>
            obtain ⟨m4, A4, c4, hm4, hv4, ho4, _, hb4, _⟩ := HP.out
            injection hv4 with e1 e2 e3
            subst e1; subst e2; subst e3
            have hn := HNX.out
            rw [if_pos hA] at hn
            exact ⟨k + 1, m1 + 1, A3, c3, by omega, by go_num, rfl, by omega, by rw [hn]; exact hm4, by rw [hn]; exact ho4, hb4⟩
          case measure => simp [intOf]; omega
        · go_wp2
          go_roundw
          case rel =>
            have hn := HNX.out
            rw [if_neg (by omega), List.append_nil] at hn
            exact ⟨k + 1, m1, A1, c1, by omega, by go_num, rfl, by omega, by rw [hn]; exact HOM2.out, by rw [hn]; exact HO2.out, HB2.out⟩
          case measure => simp [intOf]; omega
    · have htk : l.take k = l := List.take_of_length_le (by have := HN.out; omega)
      rw [htk] at HO HOM
      clear htk
      go_wp2
      go_ret
      unfold RetSp
      rw [HOM.out, HG.out]
      exact ⟨Ao, co, rfl, HO.out, HB.out⟩
end Go.Proofs.Ythdfhijahkfjdaa
