/- The walk of enc.All. -/
import Derived.Test.YthpjkgpngbdhbaaGreatDoorSpecEnc4
import Derived.Test.YthpjkgpngbdhbaaGreatDoorBlk
set_option linter.unusedSimpArgs false
set_option linter.unusedVariables false
namespace Go.Proofs.YthpjkgpngbdhbaaGreatDoor
open Go.RowKit

abbrev bandE : Array Value := #[.int .i64 0, .int .i64 2, .int .i64 4, .int .i64 8, .int .i64 16]
def strsV (l : List ByteArray) : List Value := l.map Value.string
theorem strs_one (l : List ByteArray) : ∀ u ∈ strsV l, u.oneCell' = true := by
  intro u hu
  obtain ⟨s, _, rfl⟩ := List.mem_map.1 hu
  rfl
theorem strs_app (a b : List ByteArray) : strsV (a ++ b) = strsV a ++ strsV b := by unfold strsV; exact List.map_append
theorem info_string : (Tryz.prog.info? 9).map (fun i => (i.zero, i.size, i.bytes)) = some (some (.string ⟨#[]⟩), 1, 16) := by kernel_rfl
theorem el_string : ElemT 9 1 := ⟨fun _ => by kernel_rfl, .string ⟨#[]⟩, fun _ => by kernel_rfl, by kernel_rfl⟩
theorem z55_eq : ((List.toArray (Value.int .i64 0 :: Value.int .i64 0 :: Value.int .i64 0 :: Value.int .i64 0 :: Value.int .i64 0 :: Value.int .i64 0 :: Value.int .i64 0 :: Value.int .i64 0 :: Value.int .i64 0 :: Value.int .i64 0 :: Value.int .i64 0 :: Value.int .i64 0 :: Value.int .i64 0 :: Value.int .i64 0 :: Value.int .i64 0 :: Value.int .i64 0 :: Value.int .i64 0 :: Value.int .i64 0 :: Value.int .i64 0 :: Value.int .i64 0 :: Value.int .i64 0 :: Value.int .i64 0 :: Value.int .i64 0 :: Value.int .i64 0 :: Value.int .i64 0 :: Value.int .i64 0 :: Value.int .i64 0 :: Value.int .i64 0 :: Value.int .i64 0 :: Value.int .i64 0 :: Value.int .i64 0 :: Value.int .i64 0 :: Value.int .i64 0 :: Value.int .i64 0 :: Value.int .i64 0 :: Value.int .i64 0 :: Value.int .i64 0 :: Value.int .i64 0 :: Value.int .i64 0 :: Value.int .i64 0 :: Value.int .i64 0 :: Value.int .i64 0 :: Value.int .i64 0 :: Value.int .i64 0 :: Value.int .i64 0 :: Value.int .i64 0 :: Value.int .i64 0 :: Value.int .i64 0 :: Value.int .i64 0 :: Value.int .i64 0 :: Value.int .i64 0 :: Value.int .i64 0 :: Value.int .i64 0 :: Value.int .i64 0 :: Value.int .i64 0 :: [])) : Array Value) = arrV e0.l := by kernel_rfl
theorem e0_zs : arrV e0.l = arrV (zs 55) := by kernel_rfl
theorem est_len {e : ESt} (h : e.Ok) : e.l.length = 55 := encL_len e.last h.1 h.2.1
theorem nextE_l (size : Nat) (e : ESt) (b : List Int) : (nextE size e b).l = encL (liftL e.last b) (liftN e.last b) (decSt e.L (packE size e b)) := by unfold ESt.l; rw [nextE_L, nextE_P, nextE_last]
/-- A frame encoded. -/
theorem EncodeE_any {size : Nat} (h0 : 10 ≤ size) (h1 : size ≤ 32) {e : ESt} (he : e.Ok) {b : List Int} (hb : S16 b) (w : World) (hW : BandsW w) :
    Calls Tryz.prog 11 #[.agg (arrV e.l), .agg (arrV b), .int .i64 size] w fun r w' => r = .returned (.tuple #[.string (packE size e b), .agg (arrV (nextE size e b).l), .int .i64 0]) ∧ Below w.heap.size w w' := by
  rw [nextE_l, packE_eq]
  exact Encode_good e.P e.L b e.last he.1 he.2.1 hb.1 size h0 h1 he.2.2 (s16_all hb) w hW
/-- A slice of one element of one cell made. -/
theorem fill_one {place : Nat → Option (Nat × Nat)} {u v : Value} (hp : place 0 = some (0, 1)) (hv : v.cells = #[v]) : Instr.fill place #[u] [(0, v)] = some #[v] := by
  simp [Instr.fill, hp, hv]
theorem run_bs1v {t e : TypeId} (ht : Tryz.prog.underlying t = some (.slice e)) (he : ElemT e 1) {v : Value} (hv : v.cells = #[v]) (w : World) :
    (Instr.buildSlice t 1 #[(0, v)]).run Tryz.prog w = .ok (.slice (some ⟨w.heap.size, 0, none⟩) 1 1) (w.alloc (.cells #[v] e)) := by
  obtain ⟨hs, z, hz, hzs⟩ := he
  have hf : ∀ l : Array Value, l.size = 1 → Instr.fill (fun i => some (i, 1)) l [(0, v)] = some #[v] := by
    intro l hl
    obtain ⟨l⟩ := l
    match l, hl with
    | [u], _ => exact fill_one rfl hv
  unfold Instr.buildSlice
  simp only [Sem.run_bind, run_underlying ht, Result.andThen_ok, hs, hz, if_neg (show ¬ 1 * 1 > 2 ^ 24 by omega), if_neg (show ¬ 1 * 1 = 0 by omega)]
  simp [hz, hf, newRow, Result.andThen]
theorem wp_bs1v {op : Oper} {a : Act} {w : World} {K : Act → World → Prop} {Q : Exit → Act → World → Prop} (t : TypeId) {x : Operand} (ho : op.op = .buildSlice t 1 #[(0, x)]) {v : Value} (hx : a.eval x = v) (hv : v.cells = #[v])
    {e : TypeId} (ht : Tryz.prog.underlying t = some (.slice e)) (he : ElemT e 1)
    (h : ∀ b w', b = w.heap.size → Blk w' b #[v] e → Below w.heap.size w w' → b < w'.heap.size → K (a.put op.dst (.slice (some ⟨b, 0, none⟩) 1 1)) w') : op.wp Tryz.prog a w K Q := by
  have hr := run_bs1v ht he hv w
  have hh := h _ _ rfl (Blk.newAt rfl) ((Below.refl _ _).alloc (Nat.le_refl _) (.cells #[v] e)) (by rw [World.size_alloc]; omega)
  unfold Oper.wp execOp
  simp only [ho, List.map_toArray, List.map_cons, List.map_nil, hx, Sem.run_bind, hr, Result.andThen_ok]
  exact hh
/-- What All answers. -/
def RetSS (w : World) (r : List ByteArray × ESt) (e : Ending) (w' : World) : Prop :=
  ∃ v, e = .returned (.tuple #[v, .agg (arrV r.2.l), .int .i64 0]) ∧ OW w' w.heap.size w'.heap.size 9 1 v r.1.length (strsV r.1) ∧ Below w.heap.size w w'
set_option maxRecDepth 100000 in
set_option maxHeartbeats 4000000 in
theorem All_any {size : Nat} (h0 : 10 ≤ size) (h1 : size ≤ 32) (l : List (List Int)) (hl : l.length ≤ 1000) (hS : ∀ b ∈ l, S16 b) (p : Option Addr) (lo hi cap : Nat) (w : World) (hW : BandsW w) (hB : SL w lo hi 16 p l.length cap (l.flatMap intsV)) :
    Calls Tryz.prog 21 #[.slice p l.length cap, .int .i64 size] w (RetSS w (allE size e0 l)) := by
  obtain ⟨i0, hif, hz0, hz1, hz2⟩ := info_parts info_string
  have hz55 : ((List.toArray (Value.int .i64 0 :: Value.int .i64 0 :: Value.int .i64 0 :: Value.int .i64 0 :: Value.int .i64 0 :: Value.int .i64 0 :: Value.int .i64 0 :: Value.int .i64 0 :: Value.int .i64 0 :: Value.int .i64 0 :: Value.int .i64 0 :: Value.int .i64 0 :: Value.int .i64 0 :: Value.int .i64 0 :: Value.int .i64 0 :: Value.int .i64 0 :: Value.int .i64 0 :: Value.int .i64 0 :: Value.int .i64 0 :: Value.int .i64 0 :: Value.int .i64 0 :: Value.int .i64 0 :: Value.int .i64 0 :: Value.int .i64 0 :: Value.int .i64 0 :: Value.int .i64 0 :: Value.int .i64 0 :: Value.int .i64 0 :: Value.int .i64 0 :: Value.int .i64 0 :: Value.int .i64 0 :: Value.int .i64 0 :: Value.int .i64 0 :: Value.int .i64 0 :: Value.int .i64 0 :: Value.int .i64 0 :: Value.int .i64 0 :: Value.int .i64 0 :: Value.int .i64 0 :: Value.int .i64 0 :: Value.int .i64 0 :: Value.int .i64 0 :: Value.int .i64 0 :: Value.int .i64 0 :: Value.int .i64 0 :: Value.int .i64 0 :: Value.int .i64 0 :: Value.int .i64 0 :: Value.int .i64 0 :: Value.int .i64 0 :: Value.int .i64 0 :: Value.int .i64 0 :: Value.int .i64 0 :: Value.int .i64 0 :: Value.int .i64 0 :: [])) : Array Value).size = 55 := by rfl
  have hBW : Blk w 0 bandE 133 := hW
  have hB0 := hW.lt
  have hhi := hB.2.2.2.1
  have hcap := hB.2.1
  have hcm := hB.2.2.1
  unfold maxLen at hcm
  have hQ := hB
  obtain ⟨n, hn⟩ : ∃ n, l.length = n := ⟨_, rfl⟩
  rw [hn] at hl hcap hQ ⊢
  have HN := Lib.hid hn
  have HS := Lib.hid hS
  have hen := fun e he b hb w hW => @EncodeE_any size h0 h1 e he b hb w hW
  have HEN := Lib.hid hen
  have hok := fun k => allE_ok h0 h1 (l.take k) e0 e0_ok (fun b hb => hS b (List.mem_of_mem_take hb))
  have HOK := Lib.hid hok
  clear hW hn hB hS hen hok
  obtain ⟨B, hB⟩ : ∃ B, w.heap.size = B := ⟨_, rfl⟩
  rw [hB] at hB0 hhi
  have hfar := Below.refl B w
  have hsz : B ≤ w.heap.size := by omega
  go_enter Tryz.func21, Tryz.ntmps21
  go_upto_region 3 with (fail)
  refine wp_gen (fun W => Blk W (0) (bandE) 133 ∧ SL W (lo) (hi) (16) (p) (n) (cap) (l.flatMap intsV) ∧ Blk W (B) ((List.toArray (Value.int .i64 0 :: Value.int .i64 0 :: Value.int .i64 0 :: Value.int .i64 0 :: Value.int .i64 0 :: Value.int .i64 0 :: Value.int .i64 0 :: Value.int .i64 0 :: Value.int .i64 0 :: Value.int .i64 0 :: Value.int .i64 0 :: Value.int .i64 0 :: Value.int .i64 0 :: Value.int .i64 0 :: Value.int .i64 0 :: Value.int .i64 0 :: Value.int .i64 0 :: Value.int .i64 0 :: Value.int .i64 0 :: Value.int .i64 0 :: Value.int .i64 0 :: Value.int .i64 0 :: Value.int .i64 0 :: Value.int .i64 0 :: Value.int .i64 0 :: Value.int .i64 0 :: Value.int .i64 0 :: Value.int .i64 0 :: Value.int .i64 0 :: Value.int .i64 0 :: Value.int .i64 0 :: Value.int .i64 0 :: Value.int .i64 0 :: Value.int .i64 0 :: Value.int .i64 0 :: Value.int .i64 0 :: Value.int .i64 0 :: Value.int .i64 0 :: Value.int .i64 0 :: Value.int .i64 0 :: Value.int .i64 0 :: Value.int .i64 0 :: Value.int .i64 0 :: Value.int .i64 0 :: Value.int .i64 0 :: Value.int .i64 0 :: Value.int .i64 0 :: Value.int .i64 0 :: Value.int .i64 0 :: Value.int .i64 0 :: Value.int .i64 0 :: Value.int .i64 0 :: Value.int .i64 0 :: Value.int .i64 0 :: Value.int .i64 0 :: []))) 36 ∧ Blk W (B + 1) ((List.toArray (Value.int .i64 0 :: Value.int .i64 0 :: Value.int .i64 0 :: Value.int .i64 0 :: Value.int .i64 0 :: Value.int .i64 0 :: Value.int .i64 0 :: Value.int .i64 0 :: Value.int .i64 0 :: Value.int .i64 0 :: Value.int .i64 0 :: Value.int .i64 0 :: Value.int .i64 0 :: Value.int .i64 0 :: Value.int .i64 0 :: Value.int .i64 0 :: Value.int .i64 0 :: Value.int .i64 0 :: Value.int .i64 0 :: Value.int .i64 0 :: Value.int .i64 0 :: Value.int .i64 0 :: Value.int .i64 0 :: Value.int .i64 0 :: Value.int .i64 0 :: Value.int .i64 0 :: Value.int .i64 0 :: Value.int .i64 0 :: Value.int .i64 0 :: Value.int .i64 0 :: Value.int .i64 0 :: Value.int .i64 0 :: Value.int .i64 0 :: Value.int .i64 0 :: Value.int .i64 0 :: Value.int .i64 0 :: Value.int .i64 0 :: Value.int .i64 0 :: Value.int .i64 0 :: Value.int .i64 0 :: Value.int .i64 0 :: Value.int .i64 0 :: Value.int .i64 0 :: Value.int .i64 0 :: Value.int .i64 0 :: Value.int .i64 0 :: Value.int .i64 0 :: Value.int .i64 0 :: Value.int .i64 0 :: Value.int .i64 0 :: Value.int .i64 0 :: Value.int .i64 0 :: Value.int .i64 0 :: Value.int .i64 0 :: Value.int .i64 0 :: []))) 36 ∧ Below (B) w W ∧ B + 2 ≤ W.heap.size) ⟨bk_, sl_, bk_, bk_, bl_, sz_⟩ ?_
  clear hBW hQ hfar hsz
  rintro w1 ⟨hBW, hQ, hO, hE, hfar, hsz⟩
  rw [z55_eq] at hE
  go_wp2_with fail
  go_loopw [7, 16] (fun v i wr => ∃ (k : Nat), k ≤ n ∧ i = .int .i64 k ∧ Blk wr 0 bandE 133 ∧ SL wr lo hi 16 p n cap (l.flatMap intsV) ∧ Blk wr B (List.toArray (Value.int .i64 0 :: Value.int .i64 0 :: Value.int .i64 0 :: Value.int .i64 0 :: Value.int .i64 0 :: Value.int .i64 0 :: Value.int .i64 0 :: Value.int .i64 0 :: Value.int .i64 0 :: Value.int .i64 0 :: Value.int .i64 0 :: Value.int .i64 0 :: Value.int .i64 0 :: Value.int .i64 0 :: Value.int .i64 0 :: Value.int .i64 0 :: Value.int .i64 0 :: Value.int .i64 0 :: Value.int .i64 0 :: Value.int .i64 0 :: Value.int .i64 0 :: Value.int .i64 0 :: Value.int .i64 0 :: Value.int .i64 0 :: Value.int .i64 0 :: Value.int .i64 0 :: Value.int .i64 0 :: Value.int .i64 0 :: Value.int .i64 0 :: Value.int .i64 0 :: Value.int .i64 0 :: Value.int .i64 0 :: Value.int .i64 0 :: Value.int .i64 0 :: Value.int .i64 0 :: Value.int .i64 0 :: Value.int .i64 0 :: Value.int .i64 0 :: Value.int .i64 0 :: Value.int .i64 0 :: Value.int .i64 0 :: Value.int .i64 0 :: Value.int .i64 0 :: Value.int .i64 0 :: Value.int .i64 0 :: Value.int .i64 0 :: Value.int .i64 0 :: Value.int .i64 0 :: Value.int .i64 0 :: Value.int .i64 0 :: Value.int .i64 0 :: Value.int .i64 0 :: Value.int .i64 0 :: Value.int .i64 0 :: Value.int .i64 0 :: [])) 36 ∧ Blk wr (B + 1) (arrV (allE size e0 (l.take k)).2.l) 36 ∧ OW wr (B + 2) wr.heap.size 9 1 v k (strsV (allE size e0 (l.take k)).1) ∧ Below B w wr ∧ B + 2 ≤ wr.heap.size) (fun _ i _ => n - (intOf i).toNat)
  case atStart => exact ⟨0, by omega, rfl, hBW, hQ, hO, hE, OW.nil _ _ _ _ _ (Nat.le_refl _), hfar, hsz⟩
  case round =>
    clear hBW hQ hO hE hfar hsz
    obtain ⟨k, hk, rfl, hBW, hQ, hO, hE, hOW, hfar, hsz⟩ := hrel
    by_cases hlt : k < n
    · have hkl : k < l.length := by rw [HN.out]; exact hlt
      obtain ⟨b, he⟩ : ∃ b, l[k]? = some b := ⟨_, List.getElem?_eq_getElem hkl⟩
      have hb := HS.out b (List.mem_of_getElem? he)
      have LB := Len.mk hb.1
      have hES : BS wr lo hi p cap l := by unfold BS; rw [HN.out]; exact hQ
      obtain ⟨g, o, rfl, hb1, hb2, hr⟩ := hES.get (fun b hb => (HS.out b hb).1) he
      obtain ⟨hp1, hp2⟩ := @allE_get size l e0 k b he
      have hq1 : (allE size e0 (l.take (k + 1))).1 = (allE size e0 (l.take k)).1 ++ [packE size (allE size e0 (l.take k)).2 b] := by
        rw [List.take_add_one, he, Option.toList_some, allE_app]; rfl
      have hokk := (HOK.out k).1
      have hcall := fun w hW => HEN.out _ hokk b hb w hW
      have hnx := (HOK.out (k + 1)).1
      rw [hp2] at hnx
      have LE := Len.mk (est_len hokk)
      have LX := Len.mk (est_len hnx)
      obtain ⟨P, hP⟩ : ∃ P, packE size (allE size e0 (l.take k)).2 b = P := ⟨_, rfl⟩
      obtain ⟨X, hX⟩ : ∃ X, nextE size (allE size e0 (l.take k)).2 b = X := ⟨_, rfl⟩
      rw [hX] at hp2 LX
      rw [hP] at hq1
      simp only [hP, hX] at hcall
      rw [← hp2] at LX hcall
      obtain ⟨XL, hXL⟩ : ∃ X, (allE size e0 (l.take (k + 1))).2.l = X := ⟨_, rfl⟩
      obtain ⟨EL, hEL⟩ : ∃ X, (allE size e0 (l.take k)).2.l = X := ⟨_, rfl⟩
      obtain ⟨Z, hZ⟩ : ∃ X, (allE size e0 (l.take k)).1 = X := ⟨_, rfl⟩
      simp only [hXL, hEL] at hcall
      rw [hXL] at LX
      rw [hEL] at LE hE
      rw [hZ] at hq1 hOW
      have HXL := Lib.hid hXL
      have HQ1 := Lib.hid hq1
      have HC := Lib.hid hcall
      have hra : wr.rangeAt g (o + k * 16) (arrV b).toList := by simpa using hr
      clear hXL hEL hZ hq1 hcall hP hX hp1 hp2 hES he hb hr hkl hokk hnx
      obtain ⟨N, hN⟩ : ∃ N, wr.heap.size = N := ⟨_, rfl⟩
      rw [hN] at hOW
      have hBN : B + 2 ≤ N := by omega
      have hvb : ∀ j, u7.ownBlock = some j → B + 2 ≤ j ∧ j < N := fun j hj => ⟨(World.ownsRow.lt hOW.1 j hj).1, hOW.2.1 j hj⟩
      have HVB := Lib.hid hvb
      clear hvb
      go_upto_region 6 with (first | (refine ldr 32 rfl (by rfl) w_Block rfl hra LB.sz ?_) | (first | (refine bd 34 rfl (by rfl) rfl state_zs ?_) | (refine bd 32 rfl (by rfl) rfl block_zs ?_) | (refine ld 34 rfl (by rfl) w_State rfl bk_ lz_ ?_) | (refine ld 32 rfl (by rfl) w_Block rfl bk_ lz_ ?_) | (refine ldp 32 rfl (by rfl) w_Block rfl bk_ ln_ (by omega) ?_) | (refine ld 23 rfl (by rfl) w_Four rfl bk_ lz_ ?_) | (refine ldp 23 rfl (by rfl) w_Four rfl bk_ ln_ (by omega) ?_) | (refine st 34 rfl (by rfl) w_State rfl rfl bk_ lz_ lz_ one_ ?_) | (refine st 32 rfl (by rfl) w_Block rfl rfl bk_ lz_ lz_ one_ ?_) | (refine st 23 rfl (by rfl) w_Four rfl rfl bk_ lz_ lz_ one_ ?_)))
      refine wp_gen (fun W => Blk W (0) (bandE) 133 ∧ SL W (lo) (hi) (16) (some ⟨g, o, none⟩) (n) (cap) (l.flatMap intsV) ∧ Blk W (B) ((List.toArray (Value.int .i64 0 :: Value.int .i64 0 :: Value.int .i64 0 :: Value.int .i64 0 :: Value.int .i64 0 :: Value.int .i64 0 :: Value.int .i64 0 :: Value.int .i64 0 :: Value.int .i64 0 :: Value.int .i64 0 :: Value.int .i64 0 :: Value.int .i64 0 :: Value.int .i64 0 :: Value.int .i64 0 :: Value.int .i64 0 :: Value.int .i64 0 :: Value.int .i64 0 :: Value.int .i64 0 :: Value.int .i64 0 :: Value.int .i64 0 :: Value.int .i64 0 :: Value.int .i64 0 :: Value.int .i64 0 :: Value.int .i64 0 :: Value.int .i64 0 :: Value.int .i64 0 :: Value.int .i64 0 :: Value.int .i64 0 :: Value.int .i64 0 :: Value.int .i64 0 :: Value.int .i64 0 :: Value.int .i64 0 :: Value.int .i64 0 :: Value.int .i64 0 :: Value.int .i64 0 :: Value.int .i64 0 :: Value.int .i64 0 :: Value.int .i64 0 :: Value.int .i64 0 :: Value.int .i64 0 :: Value.int .i64 0 :: Value.int .i64 0 :: Value.int .i64 0 :: Value.int .i64 0 :: Value.int .i64 0 :: Value.int .i64 0 :: Value.int .i64 0 :: Value.int .i64 0 :: Value.int .i64 0 :: Value.int .i64 0 :: Value.int .i64 0 :: Value.int .i64 0 :: Value.int .i64 0 :: Value.int .i64 0 :: Value.int .i64 0 :: []))) 36 ∧ Blk W (B + 1) (arrV EL) 36 ∧ OW W (B + 2) (N) (9) (1) (u7) (k) (strsV Z) ∧ Blk W (N) (arrV b) 32 ∧ Below (B) w W ∧ N + 1 ≤ W.heap.size) ⟨bk_, sl_, bk_, bk_, ow_, bk_, bl_, sz_⟩ ?_
      clear hBW hQ hO hE hOW hfar hsz
      rintro w2 ⟨hBW, hQ, hO, hE, hOW, hb, hfar, hsz⟩
      go_wp2_with (first | (refine ld 36 rfl (by rfl) w_EEnc rfl hE LE.sz ?_) | (first | (refine bd 34 rfl (by rfl) rfl state_zs ?_) | (refine bd 32 rfl (by rfl) rfl block_zs ?_) | (refine ld 34 rfl (by rfl) w_State rfl bk_ lz_ ?_) | (refine ld 32 rfl (by rfl) w_Block rfl bk_ lz_ ?_) | (refine ldp 32 rfl (by rfl) w_Block rfl bk_ ln_ (by omega) ?_) | (refine ld 23 rfl (by rfl) w_Four rfl bk_ lz_ ?_) | (refine ldp 23 rfl (by rfl) w_Four rfl bk_ ln_ (by omega) ?_) | (refine st 34 rfl (by rfl) w_State rfl rfl bk_ lz_ lz_ one_ ?_) | (refine st 32 rfl (by rfl) w_Block rfl rfl bk_ lz_ lz_ one_ ?_) | (refine st 23 rfl (by rfl) w_Four rfl rfl bk_ lz_ lz_ one_ ?_)))
      refine (HC.out _ hBW).mono ?_
      rintro e w3 ⟨rfl, hb3⟩
      replace hBW := hBW.newB hb3
      replace hQ := hQ.newB hb3
      replace hO := hO.newB hb3
      replace hE := hE.newB hb3
      replace hOW := hOW.newB hb3
      replace hb := hb.newB hb3
      replace hfar := hfar.trans (hb3.mono (by omega))
      replace hsz := Nat.le_trans hsz hb3.size
      obtain ⟨M, hM⟩ : ∃ M, w3.heap.size = M := ⟨_, rfl⟩
      have hNM : N + 1 ≤ M := by omega
      go_upto_region 9 with (refine st 36 rfl (by rfl) w_EEnc rfl rfl bk_ hz55 LX.sz one_ ?_)
      refine wp_gen (fun W => Blk W (0) (bandE) 133 ∧ SL W (lo) (hi) (16) (some ⟨g, o, none⟩) (n) (cap) (l.flatMap intsV) ∧ Blk W (B) ((List.toArray (Value.int .i64 0 :: Value.int .i64 0 :: Value.int .i64 0 :: Value.int .i64 0 :: Value.int .i64 0 :: Value.int .i64 0 :: Value.int .i64 0 :: Value.int .i64 0 :: Value.int .i64 0 :: Value.int .i64 0 :: Value.int .i64 0 :: Value.int .i64 0 :: Value.int .i64 0 :: Value.int .i64 0 :: Value.int .i64 0 :: Value.int .i64 0 :: Value.int .i64 0 :: Value.int .i64 0 :: Value.int .i64 0 :: Value.int .i64 0 :: Value.int .i64 0 :: Value.int .i64 0 :: Value.int .i64 0 :: Value.int .i64 0 :: Value.int .i64 0 :: Value.int .i64 0 :: Value.int .i64 0 :: Value.int .i64 0 :: Value.int .i64 0 :: Value.int .i64 0 :: Value.int .i64 0 :: Value.int .i64 0 :: Value.int .i64 0 :: Value.int .i64 0 :: Value.int .i64 0 :: Value.int .i64 0 :: Value.int .i64 0 :: Value.int .i64 0 :: Value.int .i64 0 :: Value.int .i64 0 :: Value.int .i64 0 :: Value.int .i64 0 :: Value.int .i64 0 :: Value.int .i64 0 :: Value.int .i64 0 :: Value.int .i64 0 :: Value.int .i64 0 :: Value.int .i64 0 :: Value.int .i64 0 :: Value.int .i64 0 :: Value.int .i64 0 :: Value.int .i64 0 :: Value.int .i64 0 :: Value.int .i64 0 :: Value.int .i64 0 :: []))) 36 ∧ Blk W (B + 1) (arrV EL) 36 ∧ OW W (B + 2) (N) (9) (1) (u7) (k) (strsV Z) ∧ Blk W (N) (arrV b) 32 ∧ Blk W (M) (arrV XL) 36 ∧ Below (B) w W ∧ M + 1 ≤ W.heap.size) ⟨bk_, sl_, bk_, bk_, ow_, bk_, bk_, bl_, sz_⟩ ?_
      clear hBW hQ hO hE hOW hb hfar hsz
      rintro w4 ⟨hBW, hQ, hO, hE, hOW, hb, hX, hfar, hsz⟩
      refine wp_region_held_drew (S := fun W => Blk W (M) (arrV XL) 36) (by kernel_rfl) (hX.drew) (fun hH => ?_)
      refine wpAnyH_take (i := 0) (oi := { dst := some 32, op := Op.move (Operand.tmp 7), type := 53, pos := "enc.go:111", after := _, guard := none }) (v := _) rfl (by kernel_rfl) (by kernel_rfl) (by kernel_rfl) (fun _ _ _ h => h) (.inl ⟨by rfl, fun w hS => by (go_simp; try rfl)⟩) hH ?_
      try simp only [Act.put, List.setIfInBounds_toArray, List.set_cons_zero, List.set_cons_succ]
      refine wpAnyH_take (i := 1) (oi := { dst := some 33, op := Op.move (Operand.tmp 11), type := 9, pos := "enc.go:111", after := _, guard := none }) (v := _) rfl (by kernel_rfl) (by kernel_rfl) (by kernel_rfl) (fun _ _ _ h => h) (.inl ⟨by rfl, fun w hS => by (go_simp; try rfl)⟩) hH ?_
      try simp only [Act.put, List.setIfInBounds_toArray, List.set_cons_zero, List.set_cons_succ]
      refine wpAnyH_take (i := 4) (oi := { dst := some 36, op := Op.load 36 (Operand.tmp 12), type := 36, pos := "enc.go:111", after := _, guard := none }) (v := .agg (arrV XL)) rfl (by kernel_rfl) (by kernel_rfl) (by kernel_rfl) (fun _ _ _ h => h) (yieldsIf_ld (by rfl) 36 rfl w_EEnc rfl (fun _ hS => hS) zz_) hH ?_
      try simp only [Act.put, List.setIfInBounds_toArray, List.set_cons_zero, List.set_cons_succ]
      refine wpAnyH_ready (rs := [2]) (by kernel_rfl) (by simp) ?_
      refine AllReadyH.cons (o := { dst := some 34, op := Op.buildSlice 53 1 #[(0, Operand.tmp 33)], type := 53, pos := "enc.go:111", after := _, guard := none }) rfl (fun K hK => ?_) AllReadyH.nil
      rw [if_pos (by rfl)]
      refine wp_bs1v 53 rfl rfl rfl Tryz.underlying53 el_string (fun g5 w5 hg5 hn5 hb5 hs5 => ?_)
      try simp only [World.size_drew] at hg5
      have hX5 := hX.drew.newB hb5
      have hBW5 := hBW.drew.newB hb5
      have hQ5 := hQ.drew.newB hb5
      have hO5 := hO.drew.newB hb5
      have hE5 := hE.drew.newB hb5
      have hOW5 := hOW.drew.newB hb5
      have hfar5 : Below B w w5 := hfar.drew.trans (hb5.mono (by simp only [World.size_drew]; omega))
      have hsl5 := SL.blk hn5 (n := 1) (size := 1) rfl (by unfold maxLen; omega)
      have hsz5 := hb5.size
      simp only [World.size_drew] at hsz5
      refine hK.out _ _ hX5 (fun hH => ?_)
      clear hK K
      try simp only [Act.put, List.setIfInBounds_toArray, List.set_cons_zero, List.set_cons_succ]
      refine wpAnyH_ready (rs := [3]) (by kernel_rfl) (by simp) ?_
      refine AllReadyH.cons (o := { dst := some 35, op := Op.call { callee := Callee.builtin Builtin.append, args := #[Operand.tmp 32, Operand.tmp 34], argTypes := #[53, 53] }, type := 53, pos := "enc.go:111", after := _, guard := none }) rfl (fun K hK => ?_) AllReadyH.nil
      rw [if_pos (by rfl)]
      refine wp_append_sl 53 rfl rfl (B + 2) 9 i0 (.string ⟨#[]⟩) 1 16 Tryz.underlying53 hif hz0 hz1 hz2 rfl (by omega) rfl hOW5.1 rfl hsl5 (strs_one [P]) (by unfold maxLen; omega) (by omega) (by omega) (fun v' w6 hown hgr _ => ?_)
      have hX6 := hX5.kept hgr (fun e => by have := HVB.out _ e.symm; omega)
      have hBW6 := hBW5.kept hgr (fun e => by have := HVB.out _ e.symm; omega)
      have hQ6 := hQ5.grown hgr (fun j hj => by have := HVB.out _ hj; omega)
      have hO6 := hO5.kept hgr (fun e => by have := HVB.out _ e.symm; omega)
      have hE6 := hE5.kept hgr (fun e => by have := HVB.out _ e.symm; omega)
      have hfar6 : Below B w w6 := hfar5.grown hgr (by omega) (fun j hj => by have := HVB.out j hj; omega)
      have hs6 := hgr.size
      refine hK.out _ _ hX6 (fun hH => ?_)
      clear hK K
      try simp only [Act.put, List.setIfInBounds_toArray, List.set_cons_zero, List.set_cons_succ]
      refine wpAnyH_take (i := 5) (oi := { dst := some 7, op := Op.assign (Operand.tmp 35), type := 53, pos := "enc.go:111", after := _, guard := none }) (v := _) rfl (by kernel_rfl) (by kernel_rfl) (by kernel_rfl) (fun _ _ _ h => h) (.inl ⟨by rfl, fun w hS => by (go_simp; try rfl)⟩) hH ?_
      try simp only [Act.put, List.setIfInBounds_toArray, List.set_cons_zero, List.set_cons_succ]
      refine wpAnyH_ready (rs := [6]) (by kernel_rfl) (by simp) ?_
      refine AllReadyH.cons (o := { dst := none, op := Op.store 36 (Operand.tmp 8) (Operand.tmp 36), type := 0, pos := "enc.go:111", after := _, guard := none }) rfl (fun K hK => ?_) AllReadyH.nil
      rw [if_pos (by rfl)]
      refine wp_st 36 rfl w_EEnc rfl rfl hE6 LE.sz LX.sz one_ ?_
      refine hK.out _ _ bk_ (fun hH => ?_)
      clear hK K
      try simp only [Act.put]
      refine wpAnyH_done (by kernel_rfl) ?_ _
      go_wp2_with fail
      go_roundw
      case rel => exact ⟨k + 1, hlt, by go_num, by exact bk_, by exact sl_, by exact bk_, by rw [HXL.out]; exact Blk.setRow hE6, OW.mk0 (own_setRow (by rw [HQ1.out, strs_app]; exact hown) (by omega) _), by exact bl_, by exact sz_⟩
      case measure => simp [intOf]; omega
    · obtain rfl : k = n := by omega
      have ht : l.take k = l := by rw [← HN.out]; exact List.take_length
      have hokk := (HOK.out k)
      rw [ht] at hE hOW hokk
      have LE := Len.mk (est_len hokk.1)
      have hln : (allE size e0 l).1.length = k := by rw [hokk.2.1]; exact HN.out
      obtain ⟨R, hR⟩ : ∃ R, allE size e0 l = R := ⟨_, rfl⟩
      rw [hR] at hE hOW LE hln
      have HR := Lib.hid hR
      have HLN := Lib.hid hln
      clear hR ht hokk hln
      go_upto_region 11 with (fail)
      refine wp_region_held_drew (S := fun W => Blk W (B + 1) (arrV R.2.l) 36) (by kernel_rfl) (hE.drew) (fun hH => ?_)
      refine wpAnyH_take (i := 0) (oi := { dst := some 38, op := Op.move (Operand.tmp 7), type := 53, pos := "enc.go:113", after := _, guard := none }) (v := _) rfl (by kernel_rfl) (by kernel_rfl) (by kernel_rfl) (fun _ _ _ h => h) (.inl ⟨by rfl, fun w hS => by (go_simp; try rfl)⟩) hH ?_
      try simp only [Act.put, List.setIfInBounds_toArray, List.set_cons_zero, List.set_cons_succ]
      refine wpAnyH_take (i := 1) (oi := { dst := some 39, op := Op.load 36 (Operand.tmp 8), type := 36, pos := "enc.go:113", after := _, guard := none }) (v := .agg (arrV R.2.l)) rfl (by kernel_rfl) (by kernel_rfl) (by kernel_rfl) (fun _ _ _ h => h) (yieldsIf_ld (by rfl) 36 rfl w_EEnc rfl (fun _ hS => hS) zz_) hH ?_
      try simp only [Act.put, List.setIfInBounds_toArray, List.set_cons_zero, List.set_cons_succ]
      refine wpAnyH_take (i := 2) (oi := { dst := some 4, op := Op.assign (Operand.tmp 38), type := 53, pos := "enc.go:113", after := _, guard := none }) (v := _) rfl (by kernel_rfl) (by kernel_rfl) (by kernel_rfl) (fun _ _ _ h => h) (.inl ⟨by rfl, fun w hS => by (go_simp; try rfl)⟩) hH ?_
      try simp only [Act.put, List.setIfInBounds_toArray, List.set_cons_zero, List.set_cons_succ]
      refine wpAnyH_ready (rs := [3]) (by kernel_rfl) (by simp) ?_
      refine AllReadyH.cons (o := { dst := none, op := Op.store 36 (Operand.tmp 5) (Operand.tmp 39), type := 0, pos := "enc.go:113", after := _, guard := none }) rfl (fun K hK => ?_) AllReadyH.nil
      rw [if_pos (by rfl)]
      refine wp_st 36 rfl w_EEnc rfl rfl hO.drew hz55 LE.sz one_ ?_
      refine hK.out _ _ bk_ (fun hH => ?_)
      clear hK K
      try simp only [Act.put]
      refine wpAnyH_take (i := 4) (oi := { dst := some 6, op := Op.assign (Operand.const (Value.int IntKind.i64 0)), type := 37, pos := "enc.go:113", after := _, guard := none }) (v := _) rfl (by kernel_rfl) (by kernel_rfl) (by kernel_rfl) (fun _ _ _ h => h) (.inl ⟨by rfl, fun w hS => by (go_simp; try rfl)⟩) hH ?_
      try simp only [Act.put, List.setIfInBounds_toArray, List.set_cons_zero, List.set_cons_succ]
      refine wpAnyH_done (by kernel_rfl) ?_ _
      go_wp2_with fail
      exact bodyPost_ret (v := .tuple #[u7, .agg (arrV R.2.l), .int .i64 0]) (res_tct Tryz.results21 rfl rfl w_EEnc (by exact bk_) LE.sz rfl) rfl ⟨u7, by rw [HR.out], by rw [HR.out, HLN.out]; exact OW.mk0 (own_up (own_setRow (own_drew hOW.1) (by omega) _) (by omega)), (by (try rw [hB]); exact bl_)⟩
end Go.Proofs.YthpjkgpngbdhbaaGreatDoor
