/- strings.Join and strconv.Itoa at this dump (the shelf's contracts). The walk of request.Format, for an operation and a TTL that fit. -/
import Derived.Test.YtddieenjdaociaaGreatDoorM09
import Derived.Test.YtddieenjdaociaaGreatDoorRqLZ
import Derived.Shelf.Strings.OnBuilder
import Derived.Shelf.Strconv.Itoa3
import Derived.Lib.AppendIntMem
import Derived.Deep.RegionHeld3
namespace Go.Proofs.YtddieenjdaociaaGreatDoor
open Go Go.RowKit Go.Proofs
set_option linter.unusedVariables false

def joi_ren : Go.Shelf.Ren := ⟨fun | 156 => 36 | 165 => 65 | 166 => 66 | 169 => 64 | 240 => 97 | 241 => 98 | 276 => 127 | 277 => 128 | n => n,
  fun | 0 => 0 | 3 => 3 | 4 => 4 | 9 => 9 | 20 => 20 | 31 => 43 | 37 => 129 | 70 => 128 | 72 => 131 | 75 => 134 | 76 => 136 | 127 => 172 | 164 => 199 | 5 => 5 | 80 => 122 | n => n, fun | n => n⟩
theorem joi_lays : Lays.n156 Tryz.prog joi_ren := {
  mixed := by kernel_rfl
  f156 := Tryz.func36.trans (congrArg some (by kernel_rfl))
  f165 := Tryz.func65.trans (congrArg some (by kernel_rfl))
  f166 := Tryz.func66.trans (congrArg some (by kernel_rfl))
  f169 := Tryz.func64.trans (congrArg some (by kernel_rfl))
  f240 := Tryz.func97.trans (congrArg some (by kernel_rfl))
  f241 := Tryz.func98.trans (congrArg some (by kernel_rfl))
  f276 := Tryz.func127.trans (congrArg some (by kernel_rfl))
  f277 := Tryz.func128.trans (congrArg some (by kernel_rfl))
  t0 := Tryz.underlying0
  a0 := Tryz.isAgg0
  z0 := Tryz.sizeOf0
  v0 := Tryz.zeroValue0
  t3 := Tryz.underlying3
  a3 := Tryz.isAgg3
  z3 := Tryz.sizeOf3
  v3 := Tryz.zeroValue3
  t4 := Tryz.underlying4
  a4 := Tryz.isAgg4
  z4 := Tryz.sizeOf4
  v4 := Tryz.zeroValue4
  t9 := Tryz.underlying9
  a9 := Tryz.isAgg9
  z9 := Tryz.sizeOf9
  v9 := Tryz.zeroValue9
  t20 := Tryz.underlying20
  a20 := Tryz.isAgg20
  z20 := Tryz.sizeOf20
  v20 := Tryz.zeroValue20
  t31 := Tryz.underlying43
  a31 := Tryz.isAgg43
  z31 := Tryz.sizeOf43
  v31 := Tryz.zeroValue43
  t37 := Tryz.underlying129
  a37 := Tryz.isAgg129
  z37 := Tryz.sizeOf129
  v37 := Tryz.zeroValue129
  t70 := Tryz.underlying128
  a70 := Tryz.isAgg128
  z70 := Tryz.sizeOf128
  v70 := Tryz.zeroValue128
  t72 := Tryz.underlying131
  a72 := Tryz.isAgg131
  z72 := Tryz.sizeOf131
  v72 := Tryz.zeroValue131
  t75 := Tryz.underlying134
  a75 := Tryz.isAgg134
  z75 := Tryz.sizeOf134
  v75 := Tryz.zeroValue134
  t76 := Tryz.underlying136
  a76 := Tryz.isAgg136
  z76 := Tryz.sizeOf136
  v76 := Tryz.zeroValue136
  t127 := Tryz.underlying172
  a127 := Tryz.isAgg172
  z127 := Tryz.sizeOf172
  v127 := Tryz.zeroValue172
  t164 := Tryz.underlying199
  a164 := Tryz.isAgg199
  z164 := Tryz.sizeOf199
  v164 := Tryz.zeroValue199 }
theorem joi_extra : Builder.Extra Tryz.prog joi_ren := {
  sizeBuilder := by kernel_rfl
  liesBuilder := by kernel_rfl
  t5 := Tryz.underlying5
  a5 := Tryz.isAgg5
  z5 := Tryz.sizeOf5
  v5 := Tryz.zeroValue5
  infoByte := by kernel_rfl
  cellsByte := by kernel_rfl
  sizeByte := by kernel_rfl
  neB5 := by decide }
def itb_ren : Go.Shelf.Ren := ⟨fun | 129 => 146 | 171 => 34 | 243 => 61 | 246 => 96 | 283 => 123 | 284 => 124 | 285 => 125 | 286 => 126 | 317 => 145 | 318 => 147 | 319 => 148 | 320 => 149 | 337 => 171 | 338 => 172 | n => n,
  fun | 0 => 0 | 2 => 2 | 3 => 3 | 4 => 4 | 5 => 5 | 9 => 9 | 20 => 20 | 37 => 129 | 46 => 62 | 51 => 219 | 53 => 194 | 171 => 193 | 173 => 197 | 212 => 218 | 213 => 220 | 232 => 252 | 233 => 253 | n => n, fun | 17 => 1 | 18 => 3 | 19 => 4 | n => n⟩
theorem itb_lays : Lays.n171 Tryz.prog itb_ren := {
  mixed := by kernel_rfl
  f129 := Tryz.func146.trans (congrArg some (by kernel_rfl))
  f171 := Tryz.func34.trans (congrArg some (by kernel_rfl))
  f243 := Tryz.func61.trans (congrArg some (by kernel_rfl))
  f246 := Tryz.func96.trans (congrArg some (by kernel_rfl))
  f283 := Tryz.func123.trans (congrArg some (by kernel_rfl))
  f284 := Tryz.func124.trans (congrArg some (by kernel_rfl))
  f285 := Tryz.func125.trans (congrArg some (by kernel_rfl))
  f286 := Tryz.func126.trans (congrArg some (by kernel_rfl))
  f317 := Tryz.func145.trans (congrArg some (by kernel_rfl))
  f318 := Tryz.func147.trans (congrArg some (by kernel_rfl))
  f319 := Tryz.func148.trans (congrArg some (by kernel_rfl))
  f320 := Tryz.func149.trans (congrArg some (by kernel_rfl))
  f337 := Tryz.func171.trans (congrArg some (by kernel_rfl))
  f338 := Tryz.func172.trans (congrArg some (by kernel_rfl))
  t0 := Tryz.underlying0
  a0 := Tryz.isAgg0
  z0 := Tryz.sizeOf0
  v0 := Tryz.zeroValue0
  t2 := Tryz.underlying2
  a2 := Tryz.isAgg2
  z2 := Tryz.sizeOf2
  v2 := Tryz.zeroValue2
  t3 := Tryz.underlying3
  a3 := Tryz.isAgg3
  z3 := Tryz.sizeOf3
  v3 := Tryz.zeroValue3
  t4 := Tryz.underlying4
  a4 := Tryz.isAgg4
  z4 := Tryz.sizeOf4
  v4 := Tryz.zeroValue4
  t5 := Tryz.underlying5
  a5 := Tryz.isAgg5
  z5 := Tryz.sizeOf5
  v5 := Tryz.zeroValue5
  t9 := Tryz.underlying9
  a9 := Tryz.isAgg9
  z9 := Tryz.sizeOf9
  v9 := Tryz.zeroValue9
  t20 := Tryz.underlying20
  a20 := Tryz.isAgg20
  z20 := Tryz.sizeOf20
  v20 := Tryz.zeroValue20
  t37 := Tryz.underlying129
  a37 := Tryz.isAgg129
  z37 := Tryz.sizeOf129
  v37 := Tryz.zeroValue129
  t46 := Tryz.underlying62
  a46 := Tryz.isAgg62
  z46 := Tryz.sizeOf62
  v46 := Tryz.zeroValue62
  t51 := Tryz.underlying219
  a51 := Tryz.isAgg219
  z51 := Tryz.sizeOf219
  v51 := Tryz.zeroValue219
  t53 := Tryz.underlying194
  a53 := Tryz.isAgg194
  z53 := Tryz.sizeOf194
  v53 := Tryz.zeroValue194
  t171 := Tryz.underlying193
  a171 := Tryz.isAgg193
  z171 := Tryz.sizeOf193
  v171 := Tryz.zeroValue193
  t173 := Tryz.underlying197
  a173 := Tryz.isAgg197
  z173 := Tryz.sizeOf197
  v173 := Tryz.zeroValue197
  t212 := Tryz.underlying218
  a212 := Tryz.isAgg218
  z212 := Tryz.sizeOf218
  v212 := Tryz.zeroValue218
  t213 := Tryz.underlying220
  a213 := Tryz.isAgg220
  z213 := Tryz.sizeOf220
  t232 := Tryz.underlying252
  a232 := Tryz.isAgg252
  z232 := Tryz.sizeOf252
  v232 := Tryz.zeroValue252
  t233 := Tryz.underlying253
  a233 := Tryz.isAgg253
  z233 := Tryz.sizeOf253
  v233 := Tryz.zeroValue253
  g17 := by kernel_rfl
  g18 := by kernel_rfl
  g19 := by kernel_rfl }
theorem ito_lays : LaysM.n171 Tryz.prog itb_ren := { itb_lays with
  i0 := by kernel_rfl
  i2 := by kernel_rfl
  i3 := by kernel_rfl
  i4 := by kernel_rfl
  i5 := by kernel_rfl
  i9 := by kernel_rfl
  i20 := by kernel_rfl
  i37 := by kernel_rfl
  i46 := by kernel_rfl
  i51 := by kernel_rfl
  i53 := by kernel_rfl
  i171 := by kernel_rfl
  i173 := by kernel_rfl
  i212 := by kernel_rfl
  i232 := by kernel_rfl
  i233 := by kernel_rfl
  m17 := by kernel_rfl
  m18 := by kernel_rfl
  m19 := by kernel_rfl }

/-- The table that Itoa reads. -/
def Tb (w : World) : Prop := Lib.TabIs Tryz.prog w "internal/strconv.uint64pow10" .u64 Lib.pow10Tab
theorem Tb.past {w w' : World} (h : Tb w) (hb : Below w.heap.size w w') : Tb w' := Lib.tabBelow_of_tabIs h w' hb
theorem below_grow (w : World) (k : Nat) (os : Array Obj) : Below w.heap.size w (Sort.grow (w.drewN k) os) := by
  refine ⟨rfl, rfl, rfl, ?_, fun i hi => ?_⟩
  · show w.heap.size ≤ (w.heap ++ os).size
    simp
  · show (w.heap ++ os)[i]? = w.heap[i]?
    rw [Array.getElem?_append_left hi]
theorem itoa_any (n : Int) (h0 : -9223372036854775808 ≤ n) (h1 : n ≤ 9223372036854775807) (w : World) (ht : Tb w) :
    Calls Tryz.prog 34 #[.int .i64 n] w fun e w' => e = .returned (.string (str (Lib.itoa n))) ∧ Below w.heap.size w w' := by
  refine (Any.strconv_Itoa ito_lays n h0 h1 w ht).mono ?_
  rintro e w' ⟨rfl, k, os, rfl⟩
  exact ⟨rfl, below_grow w k os⟩
theorem join_any (A : Option Addr) (n c : Nat) (l : List (List UInt8)) (B : Nat) (w : World) (hr : Rd w B 1 A n (strs (l.map str))) (hn : 0 < n) (hB : B ≤ w.heap.size) (hc : n ≤ c) (hN : n ≤ 140737488355328) (hl : (Rq.jn l).length ≤ 140737488355328) :
    Calls Tryz.prog 36 #[.slice A n c, .string ⟨#[32]⟩] w fun e w' => e = .returned (.string (str (Rq.jn l))) ∧ Below w.heap.size w w' := by
  have hll : l.length = n := by have := hr.1; rw [strs_length, List.length_map] at this; omega
  obtain ⟨b, off, rfl, hb, hcs⟩ := hr.2 (by rw [strs_length, List.length_map]; omega)
  have hm : (l.map str).map (fun x => x.data.toList) = l := by
    rw [List.map_map]
    have : (fun x : ByteArray => x.data.toList) ∘ str = id := by funext x; rfl
    rw [this, List.map_id]
  have h := Any.strings_Join joi_lays joi_extra b off c (l.map str) ⟨#[32]⟩ w (fun j x hx => hcs j _ (by rw [strs_at, hx]; rfl)) (by omega) (by rw [List.length_map]; omega) (by rw [List.length_map]; omega)
    (by rw [hm]; show (Lib.join l [32]).length ≤ _; rw [jn_join]; exact hl)
  rw [hm, List.length_map, hll] at h
  have hj : Lib.join l (⟨#[32]⟩ : ByteArray).data.toList = Rq.jn l := jn_join l
  rw [hj] at h
  exact h
end Go.Proofs.YtddieenjdaociaaGreatDoor
namespace Go.Proofs.YtddieenjdaociaaGreatDoor
open Go Go.RowKit Go.Proofs
set_option linter.unusedVariables false

def fmtVal (op ttl : Int) (ns : List (List UInt8)) : Value :=
  if op = 7 ∧ ns.length ≠ 1 then .tuple #[.string ⟨#[]⟩, .int .i64 4] else if 4096 < (Rq.ftext op ttl ns).length then .tuple #[.string ⟨#[]⟩, .int .i64 7] else .tuple #[.string (str (Rq.ftext op ttl ns)), .int .i64 0]
theorem jn_len : ∀ (l : List (List UInt8)), l ≠ [] → (Rq.jn l).length + 1 = (l.map (fun w => w.length + 1)).sum
  | [], h => absurd rfl h
  | [w], _ => by simp [Rq.jn]
  | w :: v :: r, _ => by
    have h := jn_len (v :: r) (by simp)
    show (w ++ 32 :: Rq.jn (v :: r)).length + 1 = _
    rw [List.map_cons, List.sum_cons, ← h]
    simp; omega
theorem own_cap {w : World} {base : Nat} {e : TypeId} {size n c : Nat} {A : Option Addr} {xs : List Value} (h : w.ownsRow base e size (.slice A n c) n xs) : n ≤ c := by
  rcases h.2 with ⟨hv, h0⟩ | ⟨g, cap, cur, hv, hbg, hh, hnc, hcm, hcs, htk⟩
  · injection hv with e1 e2 e3; omega
  · injection hv with e1 e2 e3; omega
theorem take_succ_map {ns : List (List UInt8)} {k : Nat} {x : List UInt8} (h : ns[k]? = some x) (ws : List (List UInt8)) : (ws ++ (ns.take (k + 1)).map Rq.quote).map str = (ws ++ (ns.take k).map Rq.quote).map str ++ [str (Rq.quote x)] := by
  obtain ⟨h1, h2⟩ := List.getElem?_eq_some_iff.1 h
  rw [List.take_succ_eq_append_getElem h1, h2]
  simp
set_option maxRecDepth 100000 in
set_option maxHeartbeats 16000000 in
theorem format_any (j : Nat) (ttl : Int) (A : Option Addr) (n c : Nat) (ns : List (List UInt8)) (w : World) (hr : Rd w w.heap.size 1 A n (strs (ns.map str))) (h0 : 1 ≤ j) (h7 : j ≤ 7) (ht : Rq.ttl (j : Int) ttl = true)
    (hN : n ≤ 1048576) (hm : ∀ x ∈ ns, x.length ≤ 1048576) (hL : (Rq.ftext (j : Int) ttl ns).length ≤ 140737488355328) (htab : Tb w) :
    Calls Tryz.prog 16 #[.agg #[.int .i64 (j : Int), .int .i64 ttl, .slice A n c]] w fun e w' => e = .returned (fmtVal (j : Int) ttl ns) ∧ Below w.heap.size w w' := by
  have hns : ns.length = n := by have := hr.1; rw [strs_length, List.length_map] at this; omega
  have hb1 : Below w.heap.size w (w.alloc (.cells #[.int .i64 (j : Int), .int .i64 ttl, .slice A n c] 70)) := (Below.refl _ _).alloc (Nat.le_refl _) _
  have HT := Lib.hid (ttl_any (j : Int) ttl)
  rw [ht] at HT
  have hbt : Rq.timed (j : Int) = true → 1 ≤ ttl ∧ ttl ≤ 1073741824 := by
    intro h
    unfold Rq.ttl at ht
    rw [h] at ht
    simpa using ht
  have HBT := Lib.hid hbt; have HR := Lib.hid hr; have HM := Lib.hid hm; have HTB := Lib.hid htab; have HLL := Lib.hid hL
  clear ht hbt hr hm htab hL
  by_cases hbad : (j : Int) = 7 ∧ ns.length ≠ 1
  · have hv : fmtVal (j : Int) ttl ns = .tuple #[.string ⟨#[]⟩, .int .i64 4] := by unfold fmtVal; rw [if_pos hbad]
    have HV := Lib.hid hv
    obtain ⟨g1, g2⟩ := hbad
    have hj7 : ((j : Int) == 7) = true := by simpa using g1
    have hn1 : ((n : Int) != 1) = true := by rw [bne_iff_ne]; omega
    clear hv g1 g2
    go_enter Tryz.func16, Tryz.ntmps16
    go_wp2_with fail
    refine (HT.out _).mono ?_
    rintro e w1 ⟨rfl, rfl⟩
    go_wp2
    go_ret2
    exact ⟨by rw [HV.out]; rfl, hb1⟩
  have hv : fmtVal (j : Int) ttl ns = if 4096 < (Rq.ftext (j : Int) ttl ns).length then .tuple #[.string ⟨#[]⟩, .int .i64 7] else .tuple #[.string (str (Rq.ftext (j : Int) ttl ns)), .int .i64 0] := by unfold fmtVal; rw [if_neg hbad]
  have HV := Lib.hid hv
  have hcond : (((j : Int) == 7) = true ∧ ((n : Int) != 1) = false) ∨ ((j : Int) == 7) = false := by
    by_cases h : (j : Int) = 7
    · left
      refine ⟨by simpa using h, ?_⟩
      have : ns.length = 1 := by
        by_cases h1 : ns.length = 1
        · exact h1
        · exact absurd ⟨h, h1⟩ hbad
      rw [← hns, this]; rfl
    · right; simpa using h
  clear hv hbad
  rcases hcond with ⟨hj7, hn1⟩ | hj7
  all_goals
    go_enter Tryz.func16, Tryz.ntmps16
    go_upto_region 7 with (refine (HT.out _).mono ?_; rintro e w1 ⟨rfl, rfl⟩)
    go_cut [4] (fun v4 wx => ∃ G : Nat, v4 = .slice (some ⟨G, 0, none⟩) 1 1 ∧ wx.ownsRow (w.heap.size + 1) 9 1 (.slice (some ⟨G, 0, none⟩) 1 1) 1 (strs [str (Rq.wd j)]) ∧ Below w.heap.size w wx ∧
      Bk wx w.heap.size 70 #[.int .i64 (j : Int), .int .i64 ttl, .slice A n c] ∧ w.heap.size < wx.heap.size)
    case first =>
      have hX : ∀ W w9 : World, w9 = W.alloc (.cells wdCells 9) → W = (w.alloc (.cells #[.int .i64 (j : Int), .int .i64 ttl, .slice A n c] 70)).drew → w9.heap.size = w.heap.size + 2 ∧ Bk w9 w.heap.size 70 #[.int .i64 (j : Int), .int .i64 ttl, .slice A n c] ∧
          w9.cell? ⟨w.heap.size + 1, j, none⟩ = some (.string (str (Rq.wd j))) ∧ Below w.heap.size w w9 := by
        intro W w9 h1 h2
        have hWs : W.heap.size = w.heap.size + 1 := by rw [h2]; simp
        refine ⟨by rw [h1]; simp [hWs], ?_, ?_, ?_⟩
        · rw [h1, h2]; exact (Bk.new w _ _).drew.alloc _
        · rw [h1, ← hWs, (Bk.new W 9 wdCells).cell, wdCells_at j (by omega)]
        · rw [h1, h2]; exact hb1.drew.alloc (by simp) _
      have HX := Lib.hid hX; clear hX
      have hj8 : ¬ ((8 : Int) ≤ (j : Int)) := by omega
      have k0 : (w.alloc (.cells #[.int .i64 (j : Int), .int .i64 ttl, .slice A n c] 70)).cell? ⟨w.heap.size, 0, none⟩ = some (.int .i64 (j : Int)) := (Bk.new w _ _).cell 0
      refine wp_region_any (by kernel_rfl) ?_
      change wpAny _ _ _ _ 7 #[false, false, false, false, false, false, false] _ (World.drew _)
      refine wpAny_take (i := 1) (v := .pointer (some ⟨w.heap.size, 0, none⟩)) rfl (by kernel_rfl) (by kernel_rfl) (by kernel_rfl) (fun _ _ _ h => h) (Or.inl ⟨by rfl, fun w => ?_⟩) ?_
      · go_simp
      try simp only [Act.put, List.setIfInBounds_toArray, List.set_cons_zero, List.set_cons_succ]
      refine wpAny_ready (rs := [0, 2]) (by kernel_rfl) (by simp) ?_
      refine AllReady.cons rfl (fun K hK => ?_) (AllReady.cons rfl (fun K hK => ?_) AllReady.nil)
      · skip
        go_simp
        refine (words_any _).mono ?_
        rintro e w9 ⟨rfl, hw9⟩
        obtain ⟨hs9, hk9, hc9, hb9⟩ := HX.out _ w9 hw9 rfl
        have k9 : w9.cell? ⟨w.heap.size, 0, none⟩ = some (.int .i64 (j : Int)) := hk9.cell 0
        clear hw9
        refine hK _ _ ?_
        clear hK K
        try simp only [Act.put, List.setIfInBounds_toArray, List.set_cons_zero, List.set_cons_succ]
        refine wpAny_ready (rs := [2]) (by kernel_rfl) (by simp) ?_
        refine AllReady.cons rfl (fun K hK => ?_) AllReady.nil
        go_simp
        refine hK _ _ ?_
        clear hK K
        try simp only [Act.put, List.setIfInBounds_toArray, List.set_cons_zero, List.set_cons_succ]
        refine wpAny_take (i := 3) (v := .pointer (some ⟨w.heap.size + 1, j, none⟩)) rfl (by kernel_rfl) (by kernel_rfl) (by kernel_rfl) (fun _ _ _ h => h) (Or.inl ⟨by rfl, fun w => ?_⟩) ?_
        · go_simp
        try simp only [Act.put, List.setIfInBounds_toArray, List.set_cons_zero, List.set_cons_succ]
        refine wpAny_ready (rs := [4]) (by kernel_rfl) (by simp) ?_
        refine AllReady.cons rfl (fun K hK => ?_) AllReady.nil
        go_simp
        refine hK _ _ ?_
        clear hK K
        try simp only [Act.put, List.setIfInBounds_toArray, List.set_cons_zero, List.set_cons_succ]
        refine wpAny_ready (rs := [5]) (by kernel_rfl) (by simp) ?_
        refine AllReady.cons rfl (fun K hK => ?_) AllReady.nil
        go_simp
        refine hK _ _ ?_
        clear hK K
        try simp only [Act.put, List.setIfInBounds_toArray, List.set_cons_zero, List.set_cons_succ]
        refine wpAny_ready (rs := [6]) (by kernel_rfl) (by simp) ?_
        refine AllReady.cons rfl (fun K hK => ?_) AllReady.nil
        go_simp
        refine hK _ _ ?_
        clear hK K
        try simp only [Act.put, List.setIfInBounds_toArray, List.set_cons_zero, List.set_cons_succ]
        refine wpAny_done (by kernel_rfl) ?_ _
        go_step
        go_wp2_with fail
        go_meet
        case rel => exact ⟨w.heap.size + 2, rfl, by have := own_built w9 (w.heap.size + 1) 9 #[.string (str (Rq.wd j))] 1 rfl (by decide) (by omega); rw [hs9] at this; exact this, hb9.alloc (by omega) _, hk9.alloc _, by simp; omega⟩
      · go_simp
        refine hK _ _ ?_
        clear hK K
        try simp only [Act.put, List.setIfInBounds_toArray, List.set_cons_zero, List.set_cons_succ]
        refine wpAny_ready (rs := [0]) (by kernel_rfl) (by simp) ?_
        refine AllReady.cons rfl (fun K hK => ?_) AllReady.nil
        go_simp
        refine (words_any _).mono ?_
        rintro e w9 ⟨rfl, hw9⟩
        obtain ⟨hs9, hk9, hc9, hb9⟩ := HX.out _ w9 hw9 rfl
        have k9 : w9.cell? ⟨w.heap.size, 0, none⟩ = some (.int .i64 (j : Int)) := hk9.cell 0
        clear hw9
        refine hK _ _ ?_
        clear hK K
        try simp only [Act.put, List.setIfInBounds_toArray, List.set_cons_zero, List.set_cons_succ]
        refine wpAny_take (i := 3) (v := .pointer (some ⟨w.heap.size + 1, j, none⟩)) rfl (by kernel_rfl) (by kernel_rfl) (by kernel_rfl) (fun _ _ _ h => h) (Or.inl ⟨by rfl, fun w => ?_⟩) ?_
        · go_simp
        try simp only [Act.put, List.setIfInBounds_toArray, List.set_cons_zero, List.set_cons_succ]
        refine wpAny_ready (rs := [4]) (by kernel_rfl) (by simp) ?_
        refine AllReady.cons rfl (fun K hK => ?_) AllReady.nil
        go_simp
        refine hK _ _ ?_
        clear hK K
        try simp only [Act.put, List.setIfInBounds_toArray, List.set_cons_zero, List.set_cons_succ]
        refine wpAny_ready (rs := [5]) (by kernel_rfl) (by simp) ?_
        refine AllReady.cons rfl (fun K hK => ?_) AllReady.nil
        go_simp
        refine hK _ _ ?_
        clear hK K
        try simp only [Act.put, List.setIfInBounds_toArray, List.set_cons_zero, List.set_cons_succ]
        refine wpAny_ready (rs := [6]) (by kernel_rfl) (by simp) ?_
        refine AllReady.cons rfl (fun K hK => ?_) AllReady.nil
        go_simp
        refine hK _ _ ?_
        clear hK K
        try simp only [Act.put, List.setIfInBounds_toArray, List.set_cons_zero, List.set_cons_succ]
        refine wpAny_done (by kernel_rfl) ?_ _
        go_step
        go_wp2_with fail
        go_meet
        case rel => exact ⟨w.heap.size + 2, rfl, by have := own_built w9 (w.heap.size + 1) 9 #[.string (str (Rq.wd j))] 1 rfl (by decide) (by omega); rw [hs9] at this; exact this, hb9.alloc (by omega) _, hk9.alloc _, by simp; omega⟩
    case rest =>
      obtain ⟨G, rfl, ho, hb, hk, hg⟩ := hcut
      have HO := Lib.hid ho; have HB := Lib.hid hb; have HK := Lib.hid hk
      have k0 : wc.cell? ⟨w.heap.size, 0, none⟩ = some (.int .i64 (j : Int)) := hk.cell 0
      have k1 : wc.cell? ⟨w.heap.size, 1, none⟩ = some (.int .i64 ttl) := hk.cell 1
      clear ho hb hk hj7
      go_upto_if 42 with (refine (timed_any (j : Int) _).mono ?_; rintro e w9 ⟨rfl, rfl⟩)
      go_cut [4] (fun v4 wx => ∃ (ws : List (List UInt8)) (A4 : Option Addr) (m c4 : Nat), v4 = .slice A4 m c4 ∧ ws.length = m ∧ m ≤ 2 ∧ 0 < m ∧ Rq.fwords (j : Int) ttl ns = ws ++ ns.map Rq.quote ∧ wx.ownsRow (w.heap.size + 1) 9 1 (.slice A4 m c4) m (strs (ws.map str)) ∧
        Below w.heap.size w wx ∧ Bk wx w.heap.size 70 #[.int .i64 (j : Int), .int .i64 ttl, .slice A n c] ∧ w.heap.size < wx.heap.size)
      case first =>
        have hjn : ((j : Int)).toNat = j := by omega
        cases htm : Rq.timed (j : Int)
        · have hfw : Rq.fwords (j : Int) ttl ns = [Rq.wd j] ++ ns.map Rq.quote := by unfold Rq.fwords; rw [htm, hjn]; rfl
          have HF := Lib.hid hfw; clear hfw htm
          go_wp2_with fail
          go_meet
          case rel => exact ⟨[Rq.wd j], _, 1, 1, rfl, rfl, by omega, by omega, HF.out, HO.out, HB.out, HK.out, hg⟩
        · have hfw : Rq.fwords (j : Int) ttl ns = [Rq.wd j, Lib.itoa ttl] ++ ns.map Rq.quote := by unfold Rq.fwords; rw [htm, hjn]; rfl
          have hbt := HBT.out htm
          have HF := Lib.hid hfw; clear hfw htm
          have HTB2 := Lib.hid (HTB.out.past HB.out)
          go_wp2_with fail
          refine (itoa_any ttl (by omega) (by omega) _ HTB2.out).mono ?_
          rintro e w5 ⟨rfl, hb5⟩
          have hs5 := hb5.size
          have HB5 := Lib.hid (HB.out.trans (hb5.mono (by omega))); have HK5 := Lib.hid (HK.out.below hb5 hg); have HO5 := Lib.hid (own_past HO.out hb5)
          clear hb5
          go_wp2_with (at_builtin; refine app_str (by rfl) _ _ rfl (base := w.heap.size + 1) (xs := [str (Rq.wd j)]) rfl (HO5.out.alloc _) rfl (rd_one_str w5 (str (Lib.itoa ttl))) (by omega) (by simp; omega) ?_)
          intro A6 c6 w6 ho6 hg6 hc6
          have HB6 := Lib.hid (own_below (own_low HO5.out (Nat.le_succ _)) HB5.out _ hg6 (by omega))
          have HK6 := Lib.hid ((HK5.out.alloc _).grown hg6 (by intro e; have := (HO5.out.lt _ e.symm).1; omega))
          have hs6 : w.heap.size < w6.heap.size := by have := hg6.size; simp at this; omega
          have HO6 := Lib.hid (show w6.ownsRow (w.heap.size + 1) 9 1 (.slice A6 2 c6) 2 (strs ([Rq.wd j, Lib.itoa ttl].map str)) from ho6)
          clear ho6 hg6 hc6
          go_wp2_with fail
          go_meet
          case rel => exact ⟨[Rq.wd j, Lib.itoa ttl], A6, 2, c6, rfl, rfl, by omega, by omega, HF.out, HO6.out, HB6.out, HK6.out, hs6⟩
      case rest =>
        obtain ⟨ws, A4, m, c4, rfl, hwm, hm2, hm0, hfw, ho4, hb4, hk4, hg4⟩ := hcut
        have HO4 := Lib.hid ho4; have HB4 := Lib.hid hb4; have HK4 := Lib.hid hk4; have HF := Lib.hid hfw; have HWM := Lib.hid hwm
        have k2 : wc.cell? ⟨w.heap.size, 2, none⟩ = some (.slice A n c) := hk4.cell 2
        clear ho4 hb4 hk4 hfw hwm HO HB HK k0 k1
        go_wp2_with fail
        go_loopw [4, 52] (fun v4 vi wr => ∃ (k : Nat) (A5 : Option Addr) (c5 : Nat), k ≤ n ∧ vi = .int .i64 k ∧ v4 = .slice A5 (m + k) c5 ∧ wr.ownsRow (w.heap.size + 1) 9 1 (.slice A5 (m + k) c5) (m + k) (strs ((ws ++ (ns.take k).map Rq.quote).map str)) ∧
          Below w.heap.size w wr ∧ w.heap.size < wr.heap.size) (fun _ vi _ => n - (intOf vi).toNat)
        case atStart => exact ⟨0, A4, c4, by omega, rfl, rfl, by simpa using HO4.out, HB4.out, hg4⟩
        case round =>
          obtain ⟨k, A5, c5, hk, rfl, rfl, ho5, hb5, hg5⟩ := hrel
          have HO5 := Lib.hid ho5; have HB5 := Lib.hid hb5
          have HR5 := Lib.hid (HR.out.below hb5)
          clear ho5 hb5
          by_cases hlt : k < n
          · obtain ⟨x, hx⟩ : ∃ x, ns[k]? = some x := ⟨_, List.getElem?_eq_getElem (by omega)⟩
            have hxm := HM.out x (List.mem_of_getElem? hx)
            obtain ⟨b, off, rfl, hbb, hcs⟩ := HR5.out.2 (by rw [strs_length, List.length_map]; omega)
            have hc : wr.cell? ⟨b, off + k, none⟩ = some (.string (str x)) := hcs k _ (by rw [strs_at, List.getElem?_map, hx]; rfl)
            have hts := take_succ_map hx ws
            have HTS := Lib.hid hts
            clear hcs hx hts
            go_wp2_with fail
            refine (quote_any (str x) (by rw [str_size]; omega) _).mono ?_
            rw [lst_str]
            rintro e w6 ⟨rfl, hb6⟩
            have hs6 := hb6.size
            have HB6 := Lib.hid (HB5.out.trans (hb6.mono (by omega))); have HO6 := Lib.hid (own_past HO5.out hb6)
            clear hb6
            go_wp2_with (at_builtin; refine app_str (by rfl) _ _ rfl (base := w.heap.size + 1) rfl (HO6.out.alloc _) rfl (rd_one_str w6 (str (Rq.quote x))) (by omega) (by simp; omega) ?_)
            intro A7 c7 w7 ho7 hg7 hc7
            have HB7 := Lib.hid (own_below (own_low HO6.out (Nat.le_succ _)) HB6.out _ hg7 (by omega))
            have hs7 : w.heap.size < w7.heap.size := by have := hg7.size; simp at this; omega
            have HO7 := Lib.hid (show w7.ownsRow (w.heap.size + 1) 9 1 (.slice A7 (m + k + 1) c7) (m + k + 1) (strs ((ws ++ (ns.take (k + 1)).map Rq.quote).map str)) by rw [HTS.out]; simpa using ho7)
            clear ho7 hg7 hc7
            go_wp2
            go_roundw
            case rel => exact ⟨k + 1, A7, c7, by omega, by go_num, rfl, HO7.out, HB7.out, hs7⟩
            case measure => simp [intOf]; omega
          · have hkn : k = n := by omega
            have htk : ns.take k = ns := by rw [hkn, ← hns, List.take_length]
            have ho6 := HO5.out
            rw [htk, ← HF.out] at ho6
            have hcap := own_cap ho6
            have HR6 := Lib.hid (Rd.of_own ho6)
            clear ho6 htk hkn
            go_wp2_with fail
            refine (join_any A5 (m + k) c5 (Rq.fwords (j : Int) ttl ns) _ _ HR6.out (by omega) (Nat.le_refl _) hcap (by omega) HLL.out).mono ?_
            rintro e w7 ⟨rfl, hb7⟩
            have HB7 := Lib.hid (HB5.out.trans (hb7.mono (by omega)))
            clear hb7
            have hsz : (str (Rq.jn (Rq.fwords (j : Int) ttl ns))).size = (Rq.ftext (j : Int) ttl ns).length := str_size _
            by_cases hbig : 4096 < (Rq.ftext (j : Int) ttl ns).length
            · have hv := HV.out
              rw [if_pos hbig] at hv
              have HV2 := Lib.hid hv; clear hv
              go_wp2
              go_ret2
              exact ⟨by rw [HV2.out]; rfl, HB7.out⟩
            · have hv := HV.out
              rw [if_neg hbig] at hv
              have HV2 := Lib.hid hv; clear hv
              go_wp2
              go_ret2
              exact ⟨by rw [HV2.out]; rfl, HB7.out⟩
end Go.Proofs.YtddieenjdaociaaGreatDoor
