/- The walks of keep.word and keep.Word: a list of one to six code points of a table. -/
import Derived.Test.YtoihjbiahccaaaaAlLL
namespace Go.Proofs.Ytoihjbiahccaaaa
open Go Go.RowKit
set_option linter.unusedVariables false

def Al.wt : List Int := [97, 98, 109, 110, 111, 114, 48, 120, 121, 769, 803, 945, 946, 1072, 1488, 1576, 1632, 7680, 7681, 7682, 19968, 44032, 8204, 2381]
theorem word_lit : ∀ n : Fin 9, (((⟨#[97, 98, 109, 110, 111, 114, 48, 120, 121]⟩ : ByteArray)[n.1]'(n.2)).toNat : Int) ∈ Al.wt := by decide +kernel
theorem lit15_at : ∀ m : Nat, m < 15 → ∃ u ∈ Al.wt, (#[.int .i64 769, .int .i64 803, .int .i64 945, .int .i64 946, .int .i64 1072, .int .i64 1488, .int .i64 1576, .int .i64 1632, .int .i64 7680, .int .i64 7681, .int .i64 7682, .int .i64 19968, .int .i64 44032, .int .i64 8204, .int .i64 2381] : Array Value)[m]? = some (.int .i64 u) := by
  intro m h
  have : m = 0 ∨ m = 1 ∨ m = 2 ∨ m = 3 ∨ m = 4 ∨ m = 5 ∨ m = 6 ∨ m = 7 ∨ m = 8 ∨ m = 9 ∨ m = 10 ∨ m = 11 ∨ m = 12 ∨ m = 13 ∨ m = 14 := by omega
  rcases this with rfl | rfl | rfl | rfl | rfl | rfl | rfl | rfl | rfl | rfl | rfl | rfl | rfl | rfl | rfl <;> exact ⟨_, by decide, rfl⟩
/-- The call returns a number of the table; of what was there, only the source's own block has turned. -/
def RetWd (g : Nat) (A : Option Addr) (n c : Nat) (w : World) (e : Ending) (w' : World) : Prop :=
  ∃ (u : Int) (j : Nat), u ∈ Al.wt ∧ e = .returned (.int .i64 u) ∧ Src w' g A n c j ∧ w.grownBy w' (some g)
set_option maxHeartbeats 4000000 in
theorem word_any (g : Nat) (A : Option Addr) (c : Nat) (xs : List Int) (i : Nat) (B : Nat) (w : World) (hs : Src w g A xs.length c i)
    (hr : Rd w B 1 A xs.length (ints xs)) (hB : B ≤ g) (hl : xs.length ≤ maxLen) :
    Calls Try.prog 47 #[.pointer (some ⟨g, 0, none⟩)] w (RetWd g A xs.length c w) := by
  have HS := Lib.hid hs; have HR := Lib.hid hr; have HL := Lib.hid hl
  have hgw : g < w.heap.size := hs.lt
  clear hs hr hl
  go_enter Try.func47, Try.ntmps47
  go_wp2_with fail
  have x0 := Kp.nx_lo xs i 2 (by omega); have x1 := Kp.nx_hi xs i 2 (by omega)
  refine (next_any g A c xs i 2 (by omega) (by omega) B w HS.out HR.out hB HL.out).mono ?_
  rintro e w4 ⟨rfl, hs4, hg4⟩
  have HS4 := Lib.hid hs4; have HG4 := Lib.hid hg4
  have HR4 := Lib.hid (HR.out.grown hg4 (by omega) (fun q hq => by injection hq; omega))
  have hsz4 := hg4.size
  clear hs4 hg4
  generalize Kp.nx xs i 2 = K at *
  have hK : K = 0 ∨ K = 1 := by omega
  clear x0 x1
  rcases hK with rfl | rfl
  · have v0 := Kp.nx_lo xs (Kp.ad xs i) 9 (by omega); have v1 := Kp.nx_hi xs (Kp.ad xs i) 9 (by omega)
    go_wp2_with fail
    refine (next_any g A c xs (Kp.ad xs i) 9 (by omega) (by omega) B w4 HS4.out HR4.out hB HL.out).mono ?_
    rintro e w5 ⟨rfl, hs5, hg5⟩
    have HS5 := Lib.hid hs5; have HG5 := Lib.hid (only_trans HG4.out hg5)
    clear hs5 hg5
    generalize Kp.nx xs (Kp.ad xs i) 9 = v at *
    obtain ⟨m, rfl⟩ := Int.eq_ofNat_of_zero_le v0
    have hm : m < 9 := by omega
    go_wp2
    go_ret
    have hb256 := UInt8.toNat_lt ((⟨#[97, 98, 109, 110, 111, 114, 48, 120, 121]⟩ : ByteArray)[m]'(hm))
    exact ⟨_, _, word_lit ⟨m, hm⟩, congrArg (fun z => Ending.returned (.int .i64 z)) (IntWalk.wrap64_in _ ⟨by omega, by omega⟩), HS5.out, HG5.out⟩
  · have v0 := Kp.nx_lo xs (Kp.ad xs i) 15 (by omega); have v1 := Kp.nx_hi xs (Kp.ad xs i) 15 (by omega)
    go_wp2_with fail
    have HBK := Lib.hid (Bk.new w4 3 #[.int .i64 769, .int .i64 803, .int .i64 945, .int .i64 946, .int .i64 1072, .int .i64 1488, .int .i64 1576, .int .i64 1632, .int .i64 7680, .int .i64 7681, .int .i64 7682, .int .i64 19968, .int .i64 44032, .int .i64 8204, .int .i64 2381])
    refine (next_any g A c xs (Kp.ad xs i) 15 (by omega) (by omega) B _ (Bk.alloc HS4.out _) (HR4.out.alloc (by omega) _) hB HL.out).mono ?_
    rintro e w5 ⟨rfl, hs5, hg5⟩
    have HS5 := Lib.hid hs5; have HG5 := Lib.hid (only_trans (only_alloc HG4.out _) hg5)
    have hbk := HBK.out.grown hg5 (by intro e; injection e; omega)
    clear hs5 hg5 HBK
    generalize Kp.nx xs (Kp.ad xs i) 15 = v at *
    obtain ⟨m, rfl⟩ := Int.eq_ofNat_of_zero_le v0
    obtain ⟨u, hu, hum⟩ := lit15_at m (by omega)
    have hcell : w5.cell? ⟨w4.heap.size, m, none⟩ = some (.int .i64 u) := (hbk.cell m).trans hum
    clear hbk hum
    go_wp2
    go_ret
    exact ⟨u, _, hu, rfl, HS5.out, HG5.out⟩
/-- The call returns one to six numbers of the table, in memory of its own. -/
def RetW (w : World) (e : Ending) (w' : World) : Prop :=
  ∃ (p : List Int) (A : Option Addr) (c : Nat), e = .returned (.slice A p.length c) ∧ w'.ownsRow w.heap.size 3 1 (.slice A p.length c) p.length (ints p) ∧ Below w.heap.size w w' ∧ 1 ≤ p.length ∧ p.length ≤ 6 ∧ ∀ u ∈ p, u ∈ Al.wt
set_option maxHeartbeats 4000000 in
theorem words_any (A : Option Addr) (c : Nat) (xs : List Int) (w : World) (hr : Rd w w.heap.size 1 A xs.length (ints xs)) (hl : xs.length ≤ maxLen) :
    Calls Try.prog 26 #[.slice A xs.length c] w (RetW w) := by
  have HR := Lib.hid hr; have HL := Lib.hid hl; clear hr hl
  go_enter Try.func26, Try.ntmps26
  go_wp2_with fail
  refine (from_any _ _ _ _).mono ?_
  rintro e w1 ⟨rfl, hw1⟩
  have hs1 := src_new w A xs.length c
  have hsz1 : w1.heap.size = w.heap.size + 1 := by rw [← hw1]; simp
  have hb1 : Below w.heap.size w w1 := by rw [← hw1]; exact (Below.refl w.heap.size w).alloc (Nat.le_refl _) _
  rw [hw1] at hs1
  generalize hg : w.heap.size = g at *
  have HG := Lib.hid hg; clear hg
  have HS1 := Lib.hid hs1; have HB1 := Lib.hid hb1; clear hs1 hb1 hw1
  go_wp2_with fail
  have x0 := Kp.nx_lo xs 0 6 (by omega); have x1 := Kp.nx_hi xs 0 6 (by omega)
  refine (next_any _ _ _ _ _ 6 (by omega) (by omega) g _ HS1.out (HR.out.below HB1.out) (by omega) HL.out).mono ?_
  rintro e w2 ⟨rfl, hs2, hg2⟩
  have hsz2 := hg2.size
  have HB2 := Lib.hid (HB1.out.grown hg2 (by omega) (fun k hk => by injection hk; omega))
  have HS2 := Lib.hid hs2; clear hs2 hg2
  generalize Kp.nx xs 0 6 = K at *
  obtain ⟨m, rfl⟩ := Int.eq_ofNat_of_zero_le x0
  have hm : m ≤ 5 := by omega
  have c1 : (1 : Int) + (m : Int) = ((m + 1 : Nat) : Int) := by omega
  go_wp2_with fail
  clear c1 x0 x1
  go_loopw [4, 5] (fun vo i wr => ∃ (k : Nat) (Ao : Option Addr) (co : Nat) (p : List Int) (j : Nat), k ≤ m + 1 ∧ i = .int .i64 ((m + 1 - k : Nat) : Int) ∧ vo = .slice Ao k co ∧ p.length = k ∧
      wr.ownsRow (g + 1) 3 1 (.slice Ao k co) k (ints p) ∧ Src wr g A xs.length c j ∧ Below g w wr ∧ ∀ u ∈ p, u ∈ Al.wt) (fun _ i _ => (intOf i).toNat)
  case atStart => exact ⟨0, none, 0, [], _, by omega, by simp, rfl, rfl, World.ownsRow_nil _ _ _ _, HS2.out, HB2.out, fun u h => by cases h⟩
  case round =>
    obtain ⟨k, Ao, co, p, j, hk, rfl, rfl, hp, ho, hs, hb, hall⟩ := hrel
    have HO := Lib.hid ho; have HS := Lib.hid hs; have HB := Lib.hid hb; have HP := Lib.hid hp; have HA := Lib.hid hall
    have hgs : g < wr.heap.size := hs.lt
    clear ho hs hb hp hall
    by_cases hlt : k < m + 1
    · have hpos : (0 : Int) < ((m + 1 - k : Nat) : Int) := by omega
      go_wp2_with fail
      refine (word_any g A c xs j g wr HS.out (HR.out.below HB.out) (Nat.le_refl _) HL.out).mono ?_
      rintro e w5 ⟨u, j5, hu, rfl, hs5, hg5⟩
      have hsz5 := hg5.size
      have HU := Lib.hid hu
      have HS5 := Lib.hid hs5
      have HB5 := Lib.hid (HB.out.grown hg5 (by omega) (fun k hk => by injection hk; omega))
      have HO5 := Lib.hid (HO.out.kept hg5 (by
        cases hob : (Value.slice Ao k co).ownBlock with
        | none => exact .inl rfl
        | some q => have := (HO.out.lt q hob).1; exact .inr (by intro e; injection e; omega)))
      clear hs5 hg5 hu
      go_wp2_with (at_builtin; refine app_int (by rfl) _ _ rfl (base := g + 1) rfl (HO5.out.alloc _) rfl (rd_one_int (z := w5.heap.size) rfl u) (by omega) (by simp <;> omega) ?_)
      intro A6 c6 w6 ho6 hg6 hc6
      have hnb : ∀ q, (Value.slice Ao k co).ownBlock = some q → g + 1 ≤ q := fun q hq => (HO5.out.lt q hq).1
      have HO6 := Lib.hid ho6
      have HS6 := Lib.hid (Bk.grown (Bk.alloc HS5.out (.cells #[.int .i64 u] 3)) hg6 (by intro e; have := hnb g e.symm; omega))
      have HB6 := Lib.hid ((HB5.out.alloc (by omega) (.cells #[.int .i64 u] 3)).grown hg6 (by simp; omega) (fun q h => by have := hnb q h; omega))
      clear ho6 hg6 hc6 hnb
      go_wp2
      go_roundw
      case rel => exact ⟨k + 1, A6, c6, p ++ [u], j5, by omega, by go_num, rfl, by rw [List.length_append, HP.out]; rfl, HO6.out, HS6.out, HB6.out, fun v hv => by
        rcases List.mem_append.1 hv with hv | hv
        · exact HA.out v hv
        · rw [List.mem_singleton.1 hv]; exact HU.out⟩
      case measure => simp [intOf]; omega
    · have hkN : k = m + 1 := by omega
      have hneg : ¬ (0 : Int) < ((m + 1 - k : Nat) : Int) := by omega
      have hpk : p.length = m + 1 := HP.out.trans hkN
      have HO2 := Lib.hid (hkN ▸ HO.out)
      go_wp2
      go_ret
      exact ⟨p, Ao, co, by rw [hpk]; rfl, by rw [hpk]; exact own_low HO2.out (by have := HG.out; omega), by rw [HG.out]; exact HB.out, by omega, by omega, HA.out⟩
end Go.Proofs.Ytoihjbiahccaaaa
