/- The walk of the law PunyUnique. -/
import Derived.Test.YtoihjbiahccaaaaPnAw
import Derived.StillTailTactics
namespace Go.Proofs.Ytoihjbiahccaaaa
open Go Go.RowKit
set_option linter.unusedVariables false

namespace Pn
theorem ins_len (out : List Int) (a : Nat) (c : Int) : (ins out a c).length = out.length + 1 := by unfold ins; simp; omega
theorem dec_all : ∀ (f : Nat) (s : List UInt8) (n i b : Int) (first : Bool) (out : List Int), s.length < f →
    ((dec f s n i b first out).2 = 0 ∧ (dec f s n i b first out).1.length ≤ out.length + s.length) ∨ ((dec f s n i b first out).1 = [] ∧ ((dec f s n i b first out).2 = 12 ∨ (dec f s n i b first out).2 = 8))
  | 0, _, _, _, _, _, _, h => by omega
  | f + 1, s, n, i, b, first, out, h => by
    unfold dec
    by_cases hs : s = []
    · rw [if_pos hs]; exact .inl ⟨rfl, by simp⟩
    · rw [if_neg hs]
      cases hr : rd s 0 0 1 b with
      | none => exact .inr ⟨rfl, .inl rfl⟩
      | some z =>
        obtain ⟨v, r⟩ := z
        have hl := (rd_bd s 0 0 1 b v r (by omega) (by omega) hr).2.2.1
        simp only
        split
        · exact .inr ⟨rfl, .inr rfl⟩
        · split
          · rcases dec_all f r (n + (v + i) / (out.length + 1)) ((v + i) % (out.length + 1) + 1) (adapt v (out.length + 1) first) false (ins out ((v + i) % (out.length + 1)).toNat (n + (v + i) / (out.length + 1))) (by omega) with ⟨h1, h2⟩ | h1
            · left; refine ⟨h1, ?_⟩; rw [ins_len] at h2; omega
            · exact .inr h1
          · exact .inr ⟨rfl, .inl rfl⟩
theorem decP_all (s : List UInt8) (hs : s.length ≤ 2048) : ((decP s).2 = 0 ∧ (decP s).1.length ≤ 4096) ∨ ((decP s).1 = [] ∧ ((decP s).2 = 12 ∨ (decP s).2 = 8)) := by
  unfold decP
  rw [if_neg (by omega)]
  by_cases h0 : 0 < lastD s
  · rw [if_pos h0]
    by_cases ha : ascii (s.take (lastD s)) = true
    · rw [if_pos ha]
      rcases dec_all (s.length + 1) (s.drop (lastD s + 1)) 128 0 72 true (nums (s.take (lastD s))) (by rw [List.length_drop]; omega) with ⟨h1, h2⟩ | h1
      · left; refine ⟨h1, ?_⟩
        have : (nums (s.take (lastD s))).length ≤ s.length := by unfold nums; rw [List.length_map, List.length_take]; omega
        rw [List.length_drop] at h2; omega
      · exact .inr h1
    · rw [if_neg ha]; exact .inr ⟨rfl, .inl rfl⟩
  · rw [if_neg h0]
    rcases dec_all (s.length + 1) s 128 0 72 true [] (by omega) with ⟨h1, h2⟩ | h1
    · left; refine ⟨h1, ?_⟩; simp at h2; omega
    · exact .inr h1
def utab : List UInt8 := [97, 98, 107, 122, 48, 57, 45, 121, 120, 57, 45, 97, 97, 98, 99, 100, 101, 102, 103, 104]
theorem utab_at : ∀ m : Fin 20, ((⟨#[97, 98, 107, 122, 48, 57, 45, 121, 120, 57, 45, 97, 97, 98, 99, 100, 101, 102, 103, 104]⟩ : ByteArray).extract m.1 (m.1 + 1)).data = #[utab.getD m.1 0] := by decide +kernel
theorem utab_low : ∀ m : Fin 20, ¬ (65 ≤ (utab.getD m.1 0).toNat ∧ (utab.getD m.1 0).toNat ≤ 90) := by decide +kernel
end Pn
theorem str_append (L M : List UInt8) : str L ++ str M = str (L ++ M) := by
  apply ByteArray.ext
  rw [ByteArray.data_append]
  simp [str]
set_option maxRecDepth 100000 in
set_option maxHeartbeats 8000000 in
theorem walk_PunyUnique (a0 : Option Addr) (c0 : Nat) (x0 : List Int) (w : World) (r0 : Rd w w.heap.size 1 a0 x0.length (intsK .u8 x0)) (m0 : x0.length ≤ maxLen) (f0 : ∀ n ∈ x0, (Lit.int .u8 n).wf = true) :
    Calls Try.prog 7 #[.slice a0 x0.length c0] w fun e w' => e = .returned (.bool true) ∧ Below w.heap.size w w' := by
  have HR := Lib.hid r0
  have hbd : ∀ n ∈ x0, 0 ≤ n ∧ n ≤ 255 := by
    intro n hn
    have := f0 n hn
    have e1 : IntKind.u8.min = 0 := rfl
    have e2 : IntKind.u8.max = 255 := rfl
    simp only [Lit.wf, e1, e2, Bool.and_eq_true, decide_eq_true_eq] at this
    exact this
  have HBD := Lib.hid hbd
  unfold maxLen at m0
  clear r0 f0 hbd
  go_enter Try.func7, Try.ntmps7
  go_wp2_with fail
  go_loopw [3, 4] (fun vt vi wr => ∃ (L : List UInt8) (k : Nat), vt = .string (str L) ∧ vi = .int .i64 k ∧ k ≤ 30 ∧ k ≤ x0.length ∧ L.length = k ∧ Pn.noCap L ∧ ∃ q, wr = w.drewN q) (fun _ vi _ => 40 - (intOf vi).toNat)
  case atStart => exact ⟨[], 0, rfl, rfl, by omega, by omega, rfl, (fun c hc => by cases hc), 0, rfl⟩
  case round =>
    obtain ⟨L, k, rfl, rfl, hk, hkx, hL, hcap, q, rfl⟩ := hrel
    have HL := Lib.hid hL; have HC := Lib.hid hcap
    clear hL hcap
    by_cases hlt : k < x0.length ∧ k < 30
    · obtain ⟨h1, h2⟩ := hlt
      obtain ⟨b, off, u, rfl, hb, hu, hcell⟩ := HR.out.at_ h1
      have hx : ∃ x, x0[k]? = some x ∧ u = .int .u8 x := by
        unfold intsK at hu
        rw [List.getElem?_map] at hu
        obtain ⟨x, e1, e2⟩ := Option.map_eq_some_iff.1 hu
        exact ⟨x, e1, e2.symm⟩
      obtain ⟨x, hx1, rfl⟩ := hx
      obtain ⟨b0, b1⟩ := HBD.out x (List.mem_of_getElem? hx1)
      obtain ⟨m, hm⟩ : ∃ m : Nat, x % 20 = (m : Int) := ⟨(x % 20).toNat, by omega⟩
      have hm20 : m < 20 := by omega
      have t1 : x.tmod 20 = (m : Int) := by rw [Int.tmod_eq_emod_of_nonneg b0, hm]
      have t2 : IntKind.u8.wrap (m : Int) = (m : Int) := by rw [IntKind.wrap_u8]; omega
      have t3 : IntKind.u8.wrap ((m : Int) + 1) = (m : Int) + 1 := by rw [IntKind.wrap_u8]; omega
      have t4 : ((m : Int) + 1).toNat = m + 1 := by omega
      have t5 : (0 : Int) ≤ (m : Int) + 1 := by omega
      have t6 : m + 1 ≤ 20 := by omega
      have t7 : (m : Int) + 1 ≤ 20 := by omega
      have t8 : (m : Int) ≤ (m : Int) + 1 := by omega
      have hex : (⟨#[97, 98, 107, 122, 48, 57, 45, 121, 120, 57, 45, 97, 97, 98, 99, 100, 101, 102, 103, 104]⟩ : ByteArray).extract m (m + 1) = str [Pn.utab.getD m 0] := ByteArray.ext (Pn.utab_at ⟨m, hm20⟩)
      have hlow := Pn.utab_low ⟨m, hm20⟩
      have hap := str_append L [Pn.utab.getD m 0]
      have HEX := Lib.hid hex; have HAP := Lib.hid hap
      have hcp : Pn.noCap (L ++ [Pn.utab.getD m 0]) := by
        intro c hc
        rcases List.mem_append.1 hc with hc | hc
        · exact HC.out c hc
        · rw [List.mem_singleton.1 hc]; exact hlow
      have HCP := Lib.hid hcp
      have hLL : (L ++ [Pn.utab.getD m 0]).length = k + 1 := by rw [List.length_append, HL.out]; rfl
      have HLL := Lib.hid hLL
      have hs1 : (str L).size = k := by rw [str_size]; exact HL.out
      have hs2 : (str [Pn.utab.getD m 0]).size = 1 := rfl
      have hs3 : (str (L ++ [Pn.utab.getD m 0])).size = k + 1 := by rw [str_size]; exact HLL.out
      clear hu hx1 hm hlow hcp hLL
      have h1i : (k : Int) < (x0.length : Int) := by omega
      have h2i : (k : Int) < 30 := by omega
      have hk0 : (0 : Int) ≤ (k : Int) := by omega
      generalize hy : Pn.utab.getD m 0 = y at *
      clear hy
      go_wp2_with fail
      go_quiet (fail)
      clear t1 t2 t3 t4 t5 t6 t7 t8 hex hap hs1 hs2 hs3
      go_wp2
      go_roundw
      case rel => exact ⟨L ++ [y], k + 1, rfl, by go_num, by omega, by omega, HLL.out, HCP.out, _, rfl⟩
      case measure => simp [intOf]; omega
    · have hl30 : L.length ≤ 30 := by rw [HL.out]; omega
      have hdec := decode_any (str L) (by rw [str_size]; omega) (w.drewN q)
      rw [lst_str] at hdec
      have hall := Pn.decP_all L (by omega)
      have henc := fun l h => Pn.encP_dec L l HC.out (by omega) h
      obtain ⟨out, er, hd⟩ : ∃ out er, Pn.decP L = (out, er) := ⟨_, _, rfl⟩
      rw [hd] at hdec hall henc
      have HDEC := Lib.hid hdec; clear hdec
      have hB0 : Below w.heap.size w (w.drewN q) := below_drewN (Below.refl _ w) q
      have HB0 := Lib.hid hB0; clear hB0
      have hxk : (x0.length : Int) ≤ (k : Int) ∨ ((k : Int) < (x0.length : Int) ∧ (30 : Int) ≤ (k : Int)) := by omega
      clear hd HL HC hlt
      generalize hwq : w.drewN q = wq at *
      have hsq : w.heap.size = wq.heap.size := by rw [← hwq]; rfl
      have HSQ := Lib.hid hsq
      clear hwq hsq HR
      have hrest : ∀ Z : Prop, Z → Z := fun _ h => h
      rcases hxk with hxk | ⟨hxk, hxk2⟩
      all_goals
        go_wp2_with fail
        refine HDEC.out.mono ?_
        rintro e w3 ⟨A3, c3, rfl, ho3, hb3⟩
        have hr3 := Rd.of_own ho3
        have HR3 := Lib.hid hr3
        have HB3 := Lib.hid (HB0.out.trans (hb3.mono (by have := HSQ.out; omega)))
        have hsz3 := hb3.size
        clear ho3 hb3 hr3
        rcases hall with ⟨h0, hlen⟩ | ⟨h0, h12⟩
        · try simp only at h0 hlen
          subst h0
          have he := henc out rfl
          have hct := encode_any A3 c3 out w3.heap.size w3 HR3.out (Nat.le_refl _) (by omega)
          rw [he] at hct
          have HCT := Lib.hid hct
          clear hct henc he
          go_wp2_with fail
          refine HCT.out.mono ?_
          rintro e w4 ⟨rfl, hb4⟩
          have HB4 := Lib.hid (HB3.out.trans (hb4.mono (by have := HB3.out.size; omega)))
          clear hb4
          go_wp2_with fail
          refine (awake10_any _).mono ?_
          rintro e w5 ⟨rfl, hb5⟩
          have HB5 := Lib.hid (HB4.out.trans (hb5.mono (by have := HB4.out.size; omega)))
          clear hb5
          go_wp2
          go_ret
          exact ⟨rfl, HB5.out⟩
        · try simp only at h0 h12
          subst h0
          rcases h12 with rfl | rfl
          all_goals
            go_wp2_with fail
            refine (awake10_any _).mono ?_
            rintro e w5 ⟨rfl, hb5⟩
            have HB5 := Lib.hid (HB3.out.trans (hb5.mono (by have := HB3.out.size; omega)))
            clear hb5
            go_wp2
            go_ret
            exact ⟨rfl, HB5.out⟩
end Go.Proofs.Ytoihjbiahccaaaa
