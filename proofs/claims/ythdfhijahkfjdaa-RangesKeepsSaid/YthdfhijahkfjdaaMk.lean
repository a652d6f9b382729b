/- The walk of keep.Spans. -/
import Derived.Test.YthdfhijahkfjdaaSrcN
import Derived.Test.YthdfhijahkfjdaaWithout
import Derived.Test.YthdfhijahkfjdaaMkMath
import Derived.Deep.RegionWith
import Derived.IntWalk
namespace Go.Proofs.Ythdfhijahkfjdaa
open Go Go.RowKit
set_option linter.unusedVariables false

theorem own_lower' {w : World} {base base' : Nat} {e : TypeId} {size n : Nat} {v : Value} {xs : List Value} (h : w.ownsRow base e size v n xs) (hb : base' ≤ base) : w.ownsRow base' e size v n xs := by
  refine ⟨h.1, ?_⟩
  rcases h.2 with h2 | ⟨g, cap, cur, h1, h2, h3⟩
  · exact .inl h2
  · exact .inr ⟨g, cap, cur, h1, by omega, h3⟩
set_option maxHeartbeats 4000000 in
theorem mk_any (A : Option Addr) (c : Nat) (xs : List Int) (w : World) (hr : Rd w w.heap.size 1 A xs.length (ints xs)) (hl : xs.length ≤ maxLen) :
    Calls Try.prog 13 #[.slice A xs.length c] w (RetSp (Rg.mk xs) w) := by
  have HR := Lib.hid hr; have HL := Lib.hid hl; clear hr hl
  have hN := Rg.mkN_eq xs
  have hN6 := Rg.mkN_le xs
  have hp : Rg.mk xs = (Rg.mkS xs (Rg.mkN xs)).2.2 := rfl
  generalize Rg.mkN xs = N at *
  have HP := Lib.hid hp; have HN := Lib.hid hN
  clear hN hp
  go_enter Try.func13, Try.ntmps13
  go_wp2_with fail
  refine (from_any _ _ _ _).mono ?_
  rintro e w1 ⟨rfl, hw1⟩
  have hs1 := src_new w A xs.length c
  have hsz1 : w1.heap.size = w.heap.size + 1 := by rw [← hw1]; simp
  have hb1 : Below w.heap.size w w1 := by rw [← hw1]; exact (Below.refl w.heap.size w).alloc (Nat.le_refl _) _
  rw [hw1] at hs1
  generalize hg : w.heap.size = g at *
  have HG := Lib.hid hg; clear hg
  have HS1 := Lib.hid hs1; have HB1 := Lib.hid hb1; clear hs1 hb1 hw1
  go_wp2_with fail
  refine (next_any _ _ _ _ _ 5 (by omega) (by omega) g _ HS1.out (HR.out.below HB1.out) (by omega) HL.out).mono ?_
  rintro e w2 ⟨rfl, hs2, hg2⟩
  have hsz2 := hg2.size
  have HB2 := Lib.hid (HB1.out.grown hg2 (by omega) (fun k hk => by injection hk; omega))
  have HS2 := Lib.hid hs2; clear hs2 hg2
  go_wp2_with fail
  refine (next_any _ _ _ _ _ 7 (by omega) (by omega) g _ HS2.out (HR.out.below HB2.out) (by omega) HL.out).mono ?_
  rintro e w3 ⟨rfl, hs3, hg3⟩
  have hsz3 := hg3.size
  have HB3 := Lib.hid (HB2.out.grown hg3 (by omega) (fun k hk => by injection hk; omega))
  have HS3 := Lib.hid hs3; clear hs3 hg3
  rw [HN.out]
  go_wp2_with fail
  go_loopw [4, 5, 6] (fun vo va i wr => ∃ (k : Nat) (Ao : Option Addr) (co : Nat), k ≤ N ∧ i = .int .i64 ((N - k : Nat) : Int) ∧ va = .int .i64 (Rg.mkS xs k).2.1 ∧ vo = .slice Ao k co ∧
      wr.ownsRow (g + 1) 25 3 (.slice Ao k co) k (spans (Rg.mkS xs k).2.2) ∧ Src wr g A xs.length c (Rg.mkS xs k).1 ∧ Below g w wr) (fun _ _ i _ => (intOf i).toNat)
  case atStart => exact ⟨0, none, 0, by omega, rfl, rfl, rfl, World.ownsRow_nil _ _ _ _, HS3.out, HB3.out⟩
  case round =>
    obtain ⟨k, Ao, co, hk, rfl, rfl, rfl, ho, hs, hb⟩ := hrel
    have HO := Lib.hid ho; have HS := Lib.hid hs; have HB := Lib.hid hb
    have hgs : g < wr.heap.size := hs.lt
    clear ho hs hb
    by_cases hlt : k < N
    · have hpos : (0 : Int) < ((N - k : Nat) : Int) := by omega
      obtain ⟨_, _, ha0, ha1, _⟩ := Rg.mkS_ok xs k (by omega)
      have hstep : Rg.mkS xs (k + 1) = (Kp.ad xs (Kp.ad xs (Kp.ad xs (Rg.mkS xs k).1)), (Rg.mkS xs k).2.1 + Kp.nx xs (Rg.mkS xs k).1 4 + Kp.nx xs (Kp.ad xs (Kp.ad xs (Rg.mkS xs k).1)) 5 + 1,
        (Rg.mkS xs k).2.2 ++ [⟨(Rg.mkS xs k).2.1 + Kp.nx xs (Rg.mkS xs k).1 4, (Rg.mkS xs k).2.1 + Kp.nx xs (Rg.mkS xs k).1 4 + Kp.nx xs (Kp.ad xs (Kp.ad xs (Rg.mkS xs k).1)) 5, Kp.nx xs (Kp.ad xs (Rg.mkS xs k).1) 3⟩]) := rfl
      have HST := Lib.hid hstep; clear hstep
      generalize (Rg.mkS xs k).2.2 = L at *
      generalize (Rg.mkS xs k).2.1 = at_ at *
      generalize (Rg.mkS xs k).1 = i at *
      have x0 := Kp.nx_lo xs i 4 (by omega); have x1 := Kp.nx_hi xs i 4 (by omega)
      have y0 := Kp.nx_lo xs (Kp.ad xs i) 3 (by omega); have y1 := Kp.nx_hi xs (Kp.ad xs i) 3 (by omega)
      have z0 := Kp.nx_lo xs (Kp.ad xs (Kp.ad xs i)) 5 (by omega); have z1 := Kp.nx_hi xs (Kp.ad xs (Kp.ad xs i)) 5 (by omega)
      go_wp2_with fail
      refine (next_any g A c xs i 4 (by omega) (by omega) g _ HS.out (HR.out.below HB.out) (by omega) HL.out).mono ?_
      rintro e w4 ⟨rfl, hs4, hg4⟩
      have hsz4 := hg4.size
      have HS4 := Lib.hid hs4
      have HB4 := Lib.hid (HB.out.grown hg4 (by omega) (fun k hk => by injection hk; omega))
      have HO4 := Lib.hid (HO.out.kept hg4 (by
        cases hob : (Value.slice Ao k co).ownBlock with
        | none => exact .inl rfl
        | some q => have := (HO.out.lt q hob).1; exact .inr (by intro e; injection e; omega)))
      clear hs4 hg4 HO HB HS
      go_wp2_with fail
      refine (next_any g A c xs (Kp.ad xs i) 3 (by omega) (by omega) g _ HS4.out (HR.out.below HB4.out) (by omega) HL.out).mono ?_
      rintro e w5 ⟨rfl, hs5, hg5⟩
      have hsz5 := hg5.size
      have HS5 := Lib.hid hs5
      have HB5 := Lib.hid (HB4.out.grown hg5 (by omega) (fun k hk => by injection hk; omega))
      have HO5 := Lib.hid (HO4.out.kept hg5 (by
        cases hob : (Value.slice Ao k co).ownBlock with
        | none => exact .inl rfl
        | some q => have := (HO4.out.lt q hob).1; exact .inr (by intro e; injection e; omega)))
      clear hs5 hg5 HO4 HB4 HS4
      generalize Kp.nx xs i 4 = p at *
      generalize Kp.nx xs (Kp.ad xs i) 3 = v at *
      go_wp2_with fail
      have hbk0 := Bk.new w5 25 #[.int .i64 (at_ + p), .int .i64 0, .int .i64 v]
      have HBK0 := Lib.hid hbk0; clear hbk0
      have HS5' := Lib.hid (HS5.out.alloc (.cells #[.int .i64 (at_ + p), .int .i64 0, .int .i64 v] 25))
      have HR5' := Lib.hid ((HR.out.below HB5.out).alloc (show g ≤ w5.heap.size by omega) (.cells #[.int .i64 (at_ + p), .int .i64 0, .int .i64 v] 25))
      have hgw5 : g < w5.heap.size := by omega
      have hwr : IntKind.i64.wrap (at_ + p + Kp.nx xs (Kp.ad xs (Kp.ad xs i)) 5) = at_ + p + Kp.nx xs (Kp.ad xs (Kp.ad xs i)) 5 := IntWalk.i64_in _ (by omega)
      have HWR := Lib.hid hwr; clear hwr
      go_region_with (go_at_call 30; refine (next_any g A c xs (Kp.ad xs (Kp.ad xs i)) 5 (by omega) (by omega) g _ HS5'.out.drew HR5'.out.drew (by omega) HL.out).mono ?_; rintro e w6 ⟨rfl, hs6, hg6⟩; have hbk := HBK0.out.drew.grown hg6 (by intro e; injection e; omega); have b0 := hbk.cell 0; have b1 := hbk.cell 1; have b2 := hbk.cell 2; have bf := hbk.frozen 1; simp at b0 b1 b2)
      all_goals
        rw [HWR.out]
        have hbk' : Bk (w6.setCell ⟨w5.heap.size, 1, none⟩ (.int .i64 (at_ + p + Kp.nx xs (Kp.ad xs (Kp.ad xs i)) 5))) w5.heap.size 25 #[.int .i64 (at_ + p), .int .i64 (at_ + p + Kp.nx xs (Kp.ad xs (Kp.ad xs i)) 5), .int .i64 v] := by
          simpa using hbk.set_ 1 (.int .i64 (at_ + p + Kp.nx xs (Kp.ad xs (Kp.ad xs i)) 5))
        have HS6 := Lib.hid (Bk.far hs6 (p := ⟨w5.heap.size, 1, none⟩) (by show g ≠ w5.heap.size; omega) (.int .i64 (at_ + p + Kp.nx xs (Kp.ad xs (Kp.ad xs i)) 5)))
        have hG := only_setCell (only_trans (only_drew (only_alloc (only_refl w5 (some g)) (.cells #[.int .i64 (at_ + p), .int .i64 0, .int .i64 v] 25))) hg6) (p := ⟨w5.heap.size, 1, none⟩) (.inr (Nat.le_refl _)) (.int .i64 (at_ + p + Kp.nx xs (Kp.ad xs (Kp.ad xs i)) 5))
        have HG7 := Lib.hid hG
        have hsz6 := hg6.size
        have hx6 : w5.heap.size < (w6.setCell ⟨w5.heap.size, 1, none⟩ (.int .i64 (at_ + p + Kp.nx xs (Kp.ad xs (Kp.ad xs i)) 5))).heap.size := hbk'.lt
        clear hbk b0 b1 b2 bf hs6 hg6 hsz6 HBK0 HS5' HR5' hG
        generalize w6.setCell ⟨w5.heap.size, 1, none⟩ (.int .i64 (at_ + p + Kp.nx xs (Kp.ad xs (Kp.ad xs i)) 5)) = w7 at *
        have HO7 := Lib.hid (HO5.out.kept HG7.out (by
          cases hob : (Value.slice Ao k co).ownBlock with
          | none => exact .inl rfl
          | some q => have := (HO5.out.lt q hob).1; exact .inr (by intro e; injection e; omega)))
        have HB7 := Lib.hid (HB5.out.grown HG7.out (by omega) (fun k hk => by injection hk; omega))
        generalize Kp.nx xs (Kp.ad xs (Kp.ad xs i)) 5 = z at *
        have b0 : w7.cell? ⟨w5.heap.size, 0, none⟩ = some (.int .i64 (at_ + p)) := (hbk'.cell 0).trans rfl
        have b1 : w7.cell? ⟨w5.heap.size, 1, none⟩ = some (.int .i64 (at_ + p + z)) := (hbk'.cell 1).trans rfl
        have b2 : w7.cell? ⟨w5.heap.size, 2, none⟩ = some (.int .i64 v) := (hbk'.cell 2).trans rfl
        have HBK := Lib.hid hbk'; clear hbk'
        have hne : some w5.heap.size ≠ (Value.slice Ao k co).ownBlock := by
          intro e
          have := (HO5.out.lt w5.heap.size e.symm).2
          omega
        have HNE := Lib.hid hne; clear hne
        have hx7 := hx6; clear hx6
        have hsz7 := HG7.out.size
        go_wp2_with (at_builtin; refine app_span (by rfl) _ _ rfl (base := g + 1) rfl (HO7.out.alloc _) rfl (rd_one_span_at (z := w7.heap.size) rfl ⟨at_ + p, at_ + p + z, v⟩) (by omega) (by simp <;> omega) ?_)
        intro A8 c8 w8 ho8 hg8 hc8
        have hsz8 := hg8.size
        have hbk8 := (HBK.out.alloc (.cells #[.int .i64 (at_ + p), .int .i64 (at_ + p + z), .int .i64 v] 25)).grown hg8 HNE.out
        have e1 : w8.cell? ⟨w5.heap.size, 1, none⟩ = some (.int .i64 (at_ + p + z)) := (hbk8.cell 1).trans rfl
        have HB8 := Lib.hid ((HB7.out.alloc (by omega) (.cells #[.int .i64 (at_ + p), .int .i64 (at_ + p + z), .int .i64 v] 25)).grown hg8 (by simp; omega) (fun q h => by have := (HO7.out.lt q h).1; omega))
        have HS8 := Lib.hid ((Bk.alloc HS6.out (.cells #[.int .i64 (at_ + p), .int .i64 (at_ + p + z), .int .i64 v] 25)).grown hg8 (by
          intro e
          have := (HO7.out.lt g e.symm).1; omega))
        have HO8 := Lib.hid ho8
        clear ho8 hg8 hc8 hbk8 b0 b1 b2 hsz8
        go_wp2
        go_roundw
        case rel => exact ⟨k + 1, A8, c8, by omega, by go_num, by rw [HST.out], rfl, by rw [HST.out]; exact HO8.out, by rw [HST.out]; exact HS8.out, HB8.out⟩
        case measure => simp [intOf]; omega
    · have hkN : k = N := by omega
      have hneg : ¬ (0 : Int) < ((N - k : Nat) : Int) := by omega
      have hlen := (Rg.mkS_ok xs k (by omega)).2.2.2.2
      have HL2 := Lib.hid hlen; clear hlen
      go_wp2
      go_ret
      have hlen : (Rg.mk xs).length = N := by rw [HP.out, ← hkN]; exact HL2.out
      unfold RetSp
      rw [hlen, HG.out, HP.out]
      subst hkN
      exact ⟨Ao, co, rfl, own_lower' HO.out (by omega), HB.out⟩
end Go.Proofs.Ythdfhijahkfjdaa
