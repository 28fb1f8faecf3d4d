/- The walk of enc.Encode. -/
import Derived.Test.YthpjkgpngbdhbaaGreatDoorEncA
import Derived.Test.YthpjkgpngbdhbaaGreatDoorTilt3
import Derived.Test.YthpjkgpngbdhbaaGreatDoorMdct6
set_option linter.unusedSimpArgs false
set_option linter.unusedVariables false
namespace Go.Proofs.YthpjkgpngbdhbaaGreatDoor
open Go.RowKit

theorem w_EEnc : Whole 36 55 := ⟨_, Tryz.underlying36, rfl, by kernel_rfl⟩
theorem res_tct {fn : Func} {r p q : Tmp} {ty t : TypeId} {tmps cs : Array Value} {w : World} {g n : Nat} {v u : Value} (h : fn.results = #[.tmp r, .cell p ty, .tmp q]) (hr : tmps.getD r undef = v) (hp : tmps.getD p undef = .pointer (some ⟨g, 0, none⟩)) (hW : Whole ty n) (hg : Blk w g cs t) (hs : cs.size = n) (hq : tmps.getD q undef = u) :
    (results fn tmps).run Tryz.prog w = .ok (.tuple #[v, .agg cs, u]) w := by
  obtain ⟨d, hu, hd, hi⟩ := hW
  subst hs
  have hp' : tmps[p]?.getD undef = .pointer (some ⟨g, 0, none⟩) := by simpa using hp
  have hr' : tmps[r]?.getD undef = v := by simpa using hr
  have hq' : tmps[q]?.getD undef = u := by simpa using hq
  simp [results, h, hp', hr', hq', asAddr, hg.loadVar ty hu hd hi]
/-- What Encode answers. -/
def encE (P : List Int) (last : Int) (L b : List Int) (size : Int) : Int := if size < 10 ∨ 32 < size then 10 else if rightE P last L = true ∧ b.all sound16 = true then 0 else 1
def encP (P : List Int) (last : Int) (L b : List Int) (size : Int) : ByteArray := if encE P last L b size = 0 then packS size.toNat (levL L) (wavesL P (liftL last b)) else ⟨#[]⟩
def encN (P : List Int) (last : Int) (L b : List Int) (size : Int) : List Int := if encE P last L b size = 0 then encL (liftL last b) (liftN last b) (decSt L (packS size.toNat (levL L) (wavesL P (liftL last b)))) else zs 55
theorem right_levs4 {L : List Int} (h : rightS L = true) (hL : L.length = 38) : LevelsOk (levL L) := by
  refine ⟨by unfold levL; rw [List.length_take, List.length_drop, hL]; decide, fun x hx => ?_⟩
  have := List.all_eq_true.1 (right_levs h) x hx
  unfold levP at this
  simpa using this
set_option maxRecDepth 100000 in
theorem eenc_built (F L : List Int) (n : Int) (h1 : F.length = 16) (h2 : L.length = 38) : Tryz.prog.built 36 [(0, .agg (arrV F)), (1, .int .i64 n), (2, .agg (arrV L))] = some (arrV (encL F n L)) := by
  match F, h1 with
  | [x0, x1, x2, x3, x4, x5, x6, x7, x8, x9, x10, x11, x12, x13, x14, x15], _ =>
    match L, h2 with
    | y0 :: y1 :: y2 :: y3 :: y4 :: y5 :: y6 :: y7 :: y8 :: y9 :: y10 :: y11 :: y12 :: y13 :: y14 :: y15 :: y16 :: y17 :: y18 :: y19 :: y20 :: y21 :: y22 :: y23 :: y24 :: y25 :: y26 :: y27 :: y28 :: y29 :: y30 :: y31 :: y32 :: y33 :: y34 :: y35 :: y36 :: y37 :: [], _ => (show (_ : Option (Array Value)) = _; kernel_rfl)
set_option maxRecDepth 100000 in
set_option maxHeartbeats 8000000 in
theorem Encode_good (P L b : List Int) (last : Int) (h1 : P.length = 16) (h2 : L.length = 38) (h3 : b.length = 16) (size : Nat) (hs0 : 10 ≤ size) (hs1 : size ≤ 32) (hr : rightE P last L = true) (hb : b.all sound16 = true) (w : World) (hW : BandsW w) :
    Calls Tryz.prog 11 #[.agg (arrV (encL P last L)), .agg (arrV b), .int .i64 size] w fun e w' => e = .returned (.tuple #[.string (packS size (levL L) (wavesL P (liftL last b))), .agg (arrV (encL (liftL last b) (liftN last b) (decSt L (packS size (levL L) (wavesL P (liftL last b)))))), .int .i64 0]) ∧ Below w.heap.size w w' := by
  have LE := Len.mk (encL_len last h1 h2)
  have LB := Len.mk h3
  have hrs : rightS L = true := by unfold rightE at hr; simp only [Bool.and_eq_true] at hr; exact hr.2
  have hlo := right_levs4 hrs h2
  have hev := fun v w h => every_any 24 sound16 b v w h (by omega) (fun _ _ => by kernel_rfl) (fun x _ w => esound_any x w)
  have her := fun w => ERight_any P L last h1 h2 w
  rw [hr] at her
  simp only [hb] at hev
  have hli := fun w => Lift_any last b h3 w
  have LF := Len.mk ((liftL_len last b).trans h3)
  have hwv := fun w => Waves_any P (liftL last b) h1 LF.out w
  have hpk := fun w hW => packet_any (levL L) (wavesL P (liftL last b)) hlo (wavesL_ok _ _) size hs0 hs1 w hW
  have hps := packS_size (w := wavesL P (liftL last b)) hlo hs0
  have hde := fun s w hW => Decode_any L h2 s w hW
  have hgood := dec_good L (packS size (levL L) (wavesL P (liftL last b))) (by rw [hps]; exact ⟨hs0, hs1⟩) hrs
  have hpt : (encL P last L).take 16 = P := by unfold encL; rw [← h1, List.take_left']; rfl
  have hpd : (encL P last L).drop 17 = L := by unfold encL; rw [List.drop_append]; simp [h1]
  have hpl : (encL P last L).getD 16 0 = last := by unfold encL; simp [List.getD_eq_getElem?_getD, ← h1]
  have hpw : ((encL P last L).drop 34).take 4 = levL L := by
    have e : (encL P last L).drop 34 = L.drop 17 := by
      have h := congrArg (List.drop 17) hpd
      rwa [List.drop_drop] at h
    rw [e]; rfl
  obtain ⟨E, hE⟩ : ∃ E, encL P last L = E := ⟨_, rfl⟩
  obtain ⟨F, hF⟩ : ∃ F, liftL last b = F := ⟨_, rfl⟩
  obtain ⟨FN, hFN⟩ : ∃ X, liftN last b = X := ⟨_, rfl⟩
  obtain ⟨WV, hWV⟩ : ∃ X, wavesL P F = X := ⟨_, rfl⟩
  obtain ⟨LV, hLV⟩ : ∃ X, levL L = X := ⟨_, rfl⟩
  obtain ⟨PK, hPK⟩ : ∃ X, packS size LV WV = X := ⟨_, rfl⟩
  rw [hF, hWV, hLV, hPK, hFN]
  simp only [hE] at hpt hpd hpl hpw her LE
  rw [hLV] at hpw hlo
  simp only [hF, hFN] at hli hwv hpk hgood hps LF
  simp only [hWV] at hwv hpk hgood hps
  simp only [hLV] at hpk hgood hps
  simp only [hPK] at hpk hgood hps
  obtain ⟨NX, hNX⟩ : ∃ X, decSt L PK = X := ⟨_, rfl⟩
  rw [hNX] at hgood
  have hdp := fun w hW => hde PK w hW
  simp only [hNX, hgood.1] at hdp
  obtain ⟨DO, hDO⟩ : ∃ X, decO L PK = X := ⟨_, rfl⟩
  simp only [hDO] at hdp hgood
  have LDO := Len.mk hgood.2.1
  have LNX := Len.mk hgood.2.2.2.2.2
  rw [hE, hNX]
  have HEV := Lib.hid hev
  have HER := Lib.hid her
  have HLI := Lib.hid hli
  have HWV := Lib.hid hwv
  have HPK := Lib.hid hpk
  have HDP := Lib.hid hdp
  have HPT := Lib.hid hpt
  have HPD := Lib.hid hpd
  have HPW := Lib.hid hpw
  clear hev her hli hwv hpk hdp hpt hpd hpw hde hgood hE hF hFN hWV hLV hPK hNX hDO hps hlo hrs hr hb
  have h0 : 0 < w.heap.size := hW.lt
  have hBW : Blk w 0 _ 133 := hW
  obtain ⟨B, hB⟩ : ∃ B, w.heap.size = B := ⟨_, rfl⟩
  rw [hB] at h0
  have hfar := Below.refl B w
  have hsz : B ≤ w.heap.size := by omega
  have hs0i : (10 : Int) ≤ size := by omega
  have hs1i : (size : Int) ≤ 32 := by omega
  go_enter Tryz.func11, Tryz.ntmps11
  go_upto_region 1 with (fail)
  refine wp_gen (fun W => Blk W (0) (#[.int .i64 0, .int .i64 2, .int .i64 4, .int .i64 8, .int .i64 16]) 133 ∧ Blk W (B) (arrV E) 36 ∧ Blk W (B + 1) (arrV b) 32 ∧ Blk W (B + 1 + 1) ((List.toArray (Value.int .i64 0 :: Value.int .i64 0 :: Value.int .i64 0 :: Value.int .i64 0 :: Value.int .i64 0 :: Value.int .i64 0 :: Value.int .i64 0 :: Value.int .i64 0 :: Value.int .i64 0 :: Value.int .i64 0 :: Value.int .i64 0 :: Value.int .i64 0 :: Value.int .i64 0 :: Value.int .i64 0 :: Value.int .i64 0 :: Value.int .i64 0 :: Value.int .i64 0 :: Value.int .i64 0 :: Value.int .i64 0 :: Value.int .i64 0 :: Value.int .i64 0 :: Value.int .i64 0 :: Value.int .i64 0 :: Value.int .i64 0 :: Value.int .i64 0 :: Value.int .i64 0 :: Value.int .i64 0 :: Value.int .i64 0 :: Value.int .i64 0 :: Value.int .i64 0 :: Value.int .i64 0 :: Value.int .i64 0 :: Value.int .i64 0 :: Value.int .i64 0 :: Value.int .i64 0 :: Value.int .i64 0 :: Value.int .i64 0 :: Value.int .i64 0 :: Value.int .i64 0 :: Value.int .i64 0 :: Value.int .i64 0 :: Value.int .i64 0 :: Value.int .i64 0 :: Value.int .i64 0 :: Value.int .i64 0 :: Value.int .i64 0 :: Value.int .i64 0 :: Value.int .i64 0 :: Value.int .i64 0 :: Value.int .i64 0 :: Value.int .i64 0 :: Value.int .i64 0 :: Value.int .i64 0 :: Value.int .i64 0 :: Value.int .i64 0 :: []))) 36 ∧ Below (B) w W ∧ B + 3 ≤ W.heap.size) ⟨bk_, bk_, bk_, bk_, bl_, sz_⟩ ?_
  clear hBW hfar hsz
  rintro wa ⟨hBW, hA, hV, hO, hfar, hsz⟩
  go_upto_region 3 with (fail)
  go_wp2_with (refine ld 36 rfl (by rfl) w_EEnc rfl hA LE.sz ?_)
  refine (HER.out _).mono ?_
  rintro e w2 ⟨rfl, hb2⟩
  replace hBW := hBW.newB hb2
  replace hA := hA.newB hb2
  replace hV := hV.newB hb2
  replace hO := hO.newB hb2
  replace hfar := hfar.trans (hb2.mono (by omega))
  replace hsz := Nat.le_trans hsz hb2.size
  have hsp := sl_part hV 0 16 (by rw [LB.out]; omega) (by omega)
  rw [List.drop_zero, List.take_of_length_le (by rw [LB.out]; omega)] at hsp
  go_wp2_with fail
  refine (HEV.out _ _ (sl_sliceI hsp h3)).mono ?_
  rintro e w' ⟨rfl, rfl⟩
  clear hsp
  have c16 := (hA.cell 16).trans (arr_get (l := E) (by rw [LE.out]; omega))
  rw [hpl] at c16
  go_upto_region 5 with (fail)
  go_wp2_with (refine ld 32 rfl (by rfl) w_Block rfl hV LB.sz ?_)
  refine (HLI.out _).mono ?_
  rintro e w3 ⟨rfl, hb3⟩
  clear c16
  replace hBW := hBW.newB hb3
  replace hA := hA.newB hb3
  replace hV := hV.newB hb3
  replace hO := hO.newB hb3
  replace hfar := hfar.trans (hb3.mono (by omega))
  replace hsz := Nat.le_trans hsz hb3.size
  obtain ⟨lb, hlb⟩ : ∃ x, w3.heap.size = x := ⟨_, rfl⟩
  have hlB : B + 3 ≤ lb := by omega
  go_upto_region 6 with (refine st 32 rfl (by rfl) w_Block rfl rfl bk_ lz_ LF.sz one_ ?_)
  refine wp_gen (fun W => Blk W (0) (#[.int .i64 0, .int .i64 2, .int .i64 4, .int .i64 8, .int .i64 16]) 133 ∧ Blk W (B) (arrV E) 36 ∧ Blk W (B + 1) (arrV b) 32 ∧ Blk W (B + 1 + 1) ((List.toArray (Value.int .i64 0 :: Value.int .i64 0 :: Value.int .i64 0 :: Value.int .i64 0 :: Value.int .i64 0 :: Value.int .i64 0 :: Value.int .i64 0 :: Value.int .i64 0 :: Value.int .i64 0 :: Value.int .i64 0 :: Value.int .i64 0 :: Value.int .i64 0 :: Value.int .i64 0 :: Value.int .i64 0 :: Value.int .i64 0 :: Value.int .i64 0 :: Value.int .i64 0 :: Value.int .i64 0 :: Value.int .i64 0 :: Value.int .i64 0 :: Value.int .i64 0 :: Value.int .i64 0 :: Value.int .i64 0 :: Value.int .i64 0 :: Value.int .i64 0 :: Value.int .i64 0 :: Value.int .i64 0 :: Value.int .i64 0 :: Value.int .i64 0 :: Value.int .i64 0 :: Value.int .i64 0 :: Value.int .i64 0 :: Value.int .i64 0 :: Value.int .i64 0 :: Value.int .i64 0 :: Value.int .i64 0 :: Value.int .i64 0 :: Value.int .i64 0 :: Value.int .i64 0 :: Value.int .i64 0 :: Value.int .i64 0 :: Value.int .i64 0 :: Value.int .i64 0 :: Value.int .i64 0 :: Value.int .i64 0 :: Value.int .i64 0 :: Value.int .i64 0 :: Value.int .i64 0 :: Value.int .i64 0 :: Value.int .i64 0 :: Value.int .i64 0 :: Value.int .i64 0 :: Value.int .i64 0 :: Value.int .i64 0 :: Value.int .i64 0 :: []))) 36 ∧ Blk W (lb) (arrV F) 32 ∧ Below (B) w W ∧ lb + 1 ≤ W.heap.size) ⟨bk_, bk_, bk_, bk_, bk_, bl_, sz_⟩ ?_
  clear hBW hA hV hO hfar hsz
  rintro w4 ⟨hBW, hA, hV, hO, hL, hfar, hsz⟩
  go_cut [11, 12] from 40 to 52 (fun s11 s12 wx => s11 = .string PK ∧ s12 = .int .i64 0 ∧ Blk wx 0 #[.int .i64 0, .int .i64 2, .int .i64 4, .int .i64 8, .int .i64 16] 133 ∧ Blk wx B (arrV E) 36 ∧ Blk wx (B + 1 + 1) (List.toArray (Value.int .i64 0 :: Value.int .i64 0 :: Value.int .i64 0 :: Value.int .i64 0 :: Value.int .i64 0 :: Value.int .i64 0 :: Value.int .i64 0 :: Value.int .i64 0 :: Value.int .i64 0 :: Value.int .i64 0 :: Value.int .i64 0 :: Value.int .i64 0 :: Value.int .i64 0 :: Value.int .i64 0 :: Value.int .i64 0 :: Value.int .i64 0 :: Value.int .i64 0 :: Value.int .i64 0 :: Value.int .i64 0 :: Value.int .i64 0 :: Value.int .i64 0 :: Value.int .i64 0 :: Value.int .i64 0 :: Value.int .i64 0 :: Value.int .i64 0 :: Value.int .i64 0 :: Value.int .i64 0 :: Value.int .i64 0 :: Value.int .i64 0 :: Value.int .i64 0 :: Value.int .i64 0 :: Value.int .i64 0 :: Value.int .i64 0 :: Value.int .i64 0 :: Value.int .i64 0 :: Value.int .i64 0 :: Value.int .i64 0 :: Value.int .i64 0 :: Value.int .i64 0 :: Value.int .i64 0 :: Value.int .i64 0 :: Value.int .i64 0 :: Value.int .i64 0 :: Value.int .i64 0 :: Value.int .i64 0 :: Value.int .i64 0 :: Value.int .i64 0 :: Value.int .i64 0 :: Value.int .i64 0 :: Value.int .i64 0 :: Value.int .i64 0 :: Value.int .i64 0 :: Value.int .i64 0 :: Value.int .i64 0 :: Value.int .i64 0 :: [])) 36 ∧ Blk wx lb (arrV F) 32 ∧ Below B w wx ∧ lb + 1 ≤ wx.heap.size)
  case first =>
    refine wp_region_held_drew (S := fun W => Blk W (B) (arrV E) 36 ∧ Blk W (lb) (arrV F) 32) (by kernel_rfl) ⟨hA.drew, hL.drew⟩ (fun hH => ?_)
    refine wpAnyH_take (i := 0) (oi := { dst := some 41, op := Op.fieldAddr 36 (Operand.tmp 3) 2, type := 0, pos := "enc.go:91", after := _, guard := none }) (v := _) rfl (by kernel_rfl) (by kernel_rfl) (by kernel_rfl) (fun _ _ _ h => h) (.inl ⟨by rfl, fun w hS => by (go_simp; try rfl)⟩) hH ?_
    try simp only [Act.put, List.setIfInBounds_toArray, List.set_cons_zero, List.set_cons_succ]
    refine wpAnyH_take (i := 1) (oi := { dst := some 42, op := Op.fieldAddr 34 (Operand.tmp 41) 2, type := 0, pos := "enc.go:91", after := _, guard := none }) (v := _) rfl (by kernel_rfl) (by kernel_rfl) (by kernel_rfl) (fun _ _ _ h => h) (.inl ⟨by rfl, fun w hS => by (go_simp; try rfl)⟩) hH ?_
    try simp only [Act.put, List.setIfInBounds_toArray, List.set_cons_zero, List.set_cons_succ]
    refine wpAnyH_take (i := 2) (oi := { dst := some 43, op := Op.load 23 (Operand.tmp 42), type := 23, pos := "enc.go:91", after := _, guard := none }) (v := _) rfl (by kernel_rfl) (by kernel_rfl) (by kernel_rfl) (fun _ _ _ h => h) (yieldsIf_ldp (by rfl) 23 rfl w_Four rfl (fun _ hS => hS.1) ln_ (by omega)) hH ?_
    try simp only [Act.put, List.setIfInBounds_toArray, List.set_cons_zero, List.set_cons_succ]
    refine wpAnyH_take (i := 3) (oi := { dst := some 44, op := Op.fieldAddr 36 (Operand.tmp 3) 0, type := 0, pos := "enc.go:91", after := _, guard := none }) (v := _) rfl (by kernel_rfl) (by kernel_rfl) (by kernel_rfl) (fun _ _ _ h => h) (.inl ⟨by rfl, fun w hS => by (go_simp; try rfl)⟩) hH ?_
    try simp only [Act.put, List.setIfInBounds_toArray, List.set_cons_zero, List.set_cons_succ]
    refine wpAnyH_take (i := 4) (oi := { dst := some 45, op := Op.load 32 (Operand.tmp 44), type := 32, pos := "enc.go:91", after := _, guard := none }) (v := _) rfl (by kernel_rfl) (by kernel_rfl) (by kernel_rfl) (fun _ _ _ h => h) (yieldsIf_ldp (by rfl) 32 rfl w_Block rfl (fun _ hS => hS.1) ln_ (by omega)) hH ?_
    try simp only [Act.put, List.setIfInBounds_toArray, List.set_cons_zero, List.set_cons_succ]
    refine wpAnyH_take (i := 5) (oi := { dst := some 46, op := Op.load 32 (Operand.tmp 9), type := 32, pos := "enc.go:91", after := _, guard := none }) (v := .agg (arrV F)) rfl (by kernel_rfl) (by kernel_rfl) (by kernel_rfl) (fun _ _ _ h => h) (yieldsIf_ld (by rfl) 32 rfl w_Block rfl (fun _ hS => hS.2) zz_) hH ?_
    try simp only [Act.put, List.setIfInBounds_toArray, List.set_cons_zero, List.set_cons_succ]
    refine wpAnyH_take (i := 7) (oi := { dst := some 48, op := Op.move (Operand.tmp 2), type := 3, pos := "enc.go:91", after := _, guard := none }) (v := _) rfl (by kernel_rfl) (by kernel_rfl) (by kernel_rfl) (fun _ _ _ h => h) (.inl ⟨by rfl, fun w hS => by (go_simp; try rfl)⟩) hH ?_
    try simp only [Act.put, List.setIfInBounds_toArray, List.set_cons_zero, List.set_cons_succ]
    refine wpAnyH_ready (rs := [6]) (by kernel_rfl) (by simp) ?_
    refine AllReadyH.cons (o := { dst := some 47, op := Op.call { callee := Callee.value (Operand.func 20), args := #[Operand.tmp 45, Operand.tmp 46], argTypes := #[32, 32] }, type := 32, pos := "enc.go:91", after := _, guard := none }) rfl (fun K hK => ?_) AllReadyH.nil
    rw [if_pos (by rfl)]
    go_simp
    (try rw [List.drop_zero])
    (try rw [HPT.out])
    refine (HWV.out _).mono ?_
    rintro e5 w5 ⟨rfl, hb5⟩
    have hA5 := hA.drew.newB hb5
    have hL5 := hL.drew.newB hb5
    have hBW5 := hBW.drew.newB hb5
    have hO5 := hO.drew.newB hb5
    go_wp2_with fail
    refine hK.out _ _ ⟨hA5, hL5⟩ (fun hH => ?_)
    clear hK K
    try simp only [Act.put, List.setIfInBounds_toArray, List.set_cons_zero, List.set_cons_succ]
    refine wpAnyH_ready (rs := [8]) (by kernel_rfl) (by simp) ?_
    refine AllReadyH.cons (o := { dst := some 49, op := Op.call { callee := Callee.value (Operand.func 25), args := #[Operand.tmp 43, Operand.tmp 47, Operand.tmp 48], argTypes := #[23, 32, 3] }, type := 64, pos := "enc.go:91", after := _, guard := none }) rfl (fun K hK => ?_) AllReadyH.nil
    rw [if_pos (by rfl)]
    go_simp
    (try rw [HPW.out])
    refine (HPK.out _ hBW5).mono ?_
    rintro e6 w6 ⟨rfl, hb6⟩
    have hA6 := hA5.newB hb6
    have hL6 := hL5.newB hb6
    have hBW6 := hBW5.newB hb6
    have hO6 := hO5.newB hb6
    go_wp2_with fail
    refine hK.out _ _ ⟨hA6, hL6⟩ (fun hH => ?_)
    clear hK K
    try simp only [Act.put, List.setIfInBounds_toArray, List.set_cons_zero, List.set_cons_succ]
    refine wpAnyH_take (i := 9) (oi := { dst := some 40, op := Op.move (Operand.tmp 49), type := 64, pos := "enc.go:91", after := _, guard := none }) (v := _) rfl (by kernel_rfl) (by kernel_rfl) (by kernel_rfl) (fun _ _ _ h => h) (.inl ⟨by rfl, fun w hS => by (go_simp; try rfl)⟩) hH ?_
    try simp only [Act.put, List.setIfInBounds_toArray, List.set_cons_zero, List.set_cons_succ]
    refine wpAnyH_take (i := 10) (oi := { dst := some 50, op := Op.extract (Operand.tmp 40) 0, type := 9, pos := "enc.go:91", after := _, guard := none }) (v := _) rfl (by kernel_rfl) (by kernel_rfl) (by kernel_rfl) (fun _ _ _ h => h) (.inl ⟨by rfl, fun w hS => by (go_simp; try rfl)⟩) hH ?_
    try simp only [Act.put, List.setIfInBounds_toArray, List.set_cons_zero, List.set_cons_succ]
    refine wpAnyH_take (i := 11) (oi := { dst := some 51, op := Op.extract (Operand.tmp 40) 1, type := 37, pos := "enc.go:91", after := _, guard := none }) (v := _) rfl (by kernel_rfl) (by kernel_rfl) (by kernel_rfl) (fun _ _ _ h => h) (.inl ⟨by rfl, fun w hS => by (go_simp; try rfl)⟩) hH ?_
    try simp only [Act.put, List.setIfInBounds_toArray, List.set_cons_zero, List.set_cons_succ]
    refine wpAnyH_take (i := 12) (oi := { dst := some 11, op := Op.assign (Operand.tmp 50), type := 9, pos := "enc.go:91", after := _, guard := none }) (v := _) rfl (by kernel_rfl) (by kernel_rfl) (by kernel_rfl) (fun _ _ _ h => h) (.inl ⟨by rfl, fun w hS => by (go_simp; try rfl)⟩) hH ?_
    try simp only [Act.put, List.setIfInBounds_toArray, List.set_cons_zero, List.set_cons_succ]
    refine wpAnyH_take (i := 13) (oi := { dst := some 12, op := Op.assign (Operand.tmp 51), type := 37, pos := "enc.go:91", after := _, guard := none }) (v := _) rfl (by kernel_rfl) (by kernel_rfl) (by kernel_rfl) (fun _ _ _ h => h) (.inl ⟨by rfl, fun w hS => by (go_simp; try rfl)⟩) hH ?_
    try simp only [Act.put, List.setIfInBounds_toArray, List.set_cons_zero, List.set_cons_succ]
    refine wpAnyH_done (by kernel_rfl) ?_ _
    go_wp2_with fail
    go_meet
    case rel => exact ⟨rfl, rfl, hBW6, hA6, hO6, hL6, hfar.drew.trans ((hb5.mono (by simp only [World.size_drew]; omega)).trans (hb6.mono (by have := hb5.size; simp only [World.size_drew] at this; omega))), Nat.le_trans hsz (Nat.le_trans hb5.size hb6.size)⟩
  case rest =>
    clear hBW hA hV hO hL hfar hsz
    obtain ⟨rfl, rfl, hBW, hA, hO, hL, hfar, hsz⟩ := hcut
    go_upto_region 9 with (fail)
    go_wp2_with (refine ldp 34 rfl (by rfl) w_State rfl hA LE (by omega) ?_)
    rw [HPD.out, List.take_of_length_le (by omega)]
    refine (HDP.out _ hBW).mono ?_
    rintro e w7 ⟨rfl, hb7⟩
    replace hBW := hBW.newB hb7
    replace hA := hA.newB hb7
    replace hO := hO.newB hb7
    replace hL := hL.newB hb7
    replace hfar := hfar.trans (hb7.mono (by omega))
    replace hsz := Nat.le_trans hsz hb7.size
    obtain ⟨db, hdb⟩ : ∃ x, w7.heap.size = x := ⟨_, rfl⟩
    have hdB : lb + 1 ≤ db := by omega
    go_upto_region 10 with (first | (refine st 32 rfl (by rfl) w_Block rfl rfl bk_ lz_ LDO.sz one_ ?_) | (refine st 34 rfl (by rfl) w_State rfl rfl bk_ lz_ LNX.sz one_ ?_))
    refine wp_gen (fun W => Blk W (0) (#[.int .i64 0, .int .i64 2, .int .i64 4, .int .i64 8, .int .i64 16]) 133 ∧ Blk W (B) (arrV E) 36 ∧ Blk W (B + 1 + 1) ((List.toArray (Value.int .i64 0 :: Value.int .i64 0 :: Value.int .i64 0 :: Value.int .i64 0 :: Value.int .i64 0 :: Value.int .i64 0 :: Value.int .i64 0 :: Value.int .i64 0 :: Value.int .i64 0 :: Value.int .i64 0 :: Value.int .i64 0 :: Value.int .i64 0 :: Value.int .i64 0 :: Value.int .i64 0 :: Value.int .i64 0 :: Value.int .i64 0 :: Value.int .i64 0 :: Value.int .i64 0 :: Value.int .i64 0 :: Value.int .i64 0 :: Value.int .i64 0 :: Value.int .i64 0 :: Value.int .i64 0 :: Value.int .i64 0 :: Value.int .i64 0 :: Value.int .i64 0 :: Value.int .i64 0 :: Value.int .i64 0 :: Value.int .i64 0 :: Value.int .i64 0 :: Value.int .i64 0 :: Value.int .i64 0 :: Value.int .i64 0 :: Value.int .i64 0 :: Value.int .i64 0 :: Value.int .i64 0 :: Value.int .i64 0 :: Value.int .i64 0 :: Value.int .i64 0 :: Value.int .i64 0 :: Value.int .i64 0 :: Value.int .i64 0 :: Value.int .i64 0 :: Value.int .i64 0 :: Value.int .i64 0 :: Value.int .i64 0 :: Value.int .i64 0 :: Value.int .i64 0 :: Value.int .i64 0 :: Value.int .i64 0 :: Value.int .i64 0 :: Value.int .i64 0 :: Value.int .i64 0 :: Value.int .i64 0 :: Value.int .i64 0 :: []))) 36 ∧ Blk W (lb) (arrV F) 32 ∧ Blk W (db + 1) (arrV NX) 34 ∧ Below (B) w W ∧ db + 2 ≤ W.heap.size) ⟨bk_, bk_, bk_, bk_, bk_, bl_, sz_⟩ ?_
    clear hBW hA hO hL hfar hsz
    rintro w8 ⟨hBW, hA, hO, hL, hNS, hfar, hsz⟩
    go_upto_region 12 with (fail)
    have hbu := eenc_built F NX FN LF.out LNX.out
    have hz55 : ((List.toArray (Value.int .i64 0 :: Value.int .i64 0 :: Value.int .i64 0 :: Value.int .i64 0 :: Value.int .i64 0 :: Value.int .i64 0 :: Value.int .i64 0 :: Value.int .i64 0 :: Value.int .i64 0 :: Value.int .i64 0 :: Value.int .i64 0 :: Value.int .i64 0 :: Value.int .i64 0 :: Value.int .i64 0 :: Value.int .i64 0 :: Value.int .i64 0 :: Value.int .i64 0 :: Value.int .i64 0 :: Value.int .i64 0 :: Value.int .i64 0 :: Value.int .i64 0 :: Value.int .i64 0 :: Value.int .i64 0 :: Value.int .i64 0 :: Value.int .i64 0 :: Value.int .i64 0 :: Value.int .i64 0 :: Value.int .i64 0 :: Value.int .i64 0 :: Value.int .i64 0 :: Value.int .i64 0 :: Value.int .i64 0 :: Value.int .i64 0 :: Value.int .i64 0 :: Value.int .i64 0 :: Value.int .i64 0 :: Value.int .i64 0 :: Value.int .i64 0 :: Value.int .i64 0 :: Value.int .i64 0 :: Value.int .i64 0 :: Value.int .i64 0 :: Value.int .i64 0 :: Value.int .i64 0 :: Value.int .i64 0 :: Value.int .i64 0 :: Value.int .i64 0 :: Value.int .i64 0 :: Value.int .i64 0 :: Value.int .i64 0 :: Value.int .i64 0 :: Value.int .i64 0 :: Value.int .i64 0 :: Value.int .i64 0 :: Value.int .i64 0 :: [])) : Array Value).size = 55 := by rfl
    have LZ := Len.mk (encL_len FN LF.out LNX.out)
    refine wp_region_held_drew (S := fun W => Blk W (lb) (arrV F) 32 ∧ Blk W (db + 1) (arrV NX) 34) (by kernel_rfl) ⟨hL.drew, hNS.drew⟩ (fun hH => ?_)
    refine wpAnyH_take (i := 0) (oi := { dst := some 68, op := Op.move (Operand.tmp 11), type := 9, pos := "enc.go:99", after := _, guard := none }) (v := _) rfl (by kernel_rfl) (by kernel_rfl) (by kernel_rfl) (fun _ _ _ h => h) (.inl ⟨by rfl, fun w hS => by (go_simp; try rfl)⟩) hH ?_
    try simp only [Act.put, List.setIfInBounds_toArray, List.set_cons_zero, List.set_cons_succ]
    refine wpAnyH_take (i := 1) (oi := { dst := some 69, op := Op.load 32 (Operand.tmp 9), type := 32, pos := "enc.go:99", after := _, guard := none }) (v := .agg (arrV F)) rfl (by kernel_rfl) (by kernel_rfl) (by kernel_rfl) (fun _ _ _ h => h) (yieldsIf_ld (by rfl) 32 rfl w_Block rfl (fun _ hS => hS.1) zz_) hH ?_
    try simp only [Act.put, List.setIfInBounds_toArray, List.set_cons_zero, List.set_cons_succ]
    refine wpAnyH_take (i := 2) (oi := { dst := some 70, op := Op.move (Operand.tmp 10), type := 3, pos := "enc.go:99", after := _, guard := none }) (v := _) rfl (by kernel_rfl) (by kernel_rfl) (by kernel_rfl) (fun _ _ _ h => h) (.inl ⟨by rfl, fun w hS => by (go_simp; try rfl)⟩) hH ?_
    try simp only [Act.put, List.setIfInBounds_toArray, List.set_cons_zero, List.set_cons_succ]
    refine wpAnyH_take (i := 3) (oi := { dst := some 71, op := Op.load 34 (Operand.tmp 14), type := 34, pos := "enc.go:99", after := _, guard := none }) (v := .agg (arrV NX)) rfl (by kernel_rfl) (by kernel_rfl) (by kernel_rfl) (fun _ _ _ h => h) (yieldsIf_ld (by rfl) 34 rfl w_State rfl (fun _ hS => hS.2) zz_) hH ?_
    try simp only [Act.put, List.setIfInBounds_toArray, List.set_cons_zero, List.set_cons_succ]
    refine wpAnyH_take (i := 4) (oi := { dst := some 72, op := Op.build 36 #[(0, Operand.tmp 69), (1, Operand.tmp 70), (2, Operand.tmp 71)], type := 36, pos := "enc.go:99", after := _, guard := none }) (v := .agg (arrV (encL F FN NX))) rfl (by kernel_rfl) (by kernel_rfl) (by kernel_rfl) (fun _ _ _ h => h) (yieldsIf_build_l (by rfl) 36 #[(0, .tmp 69), (1, .tmp 70), (2, .tmp 71)] rfl [(0, .agg (arrV F)), (1, .int .i64 FN), (2, .agg (arrV NX))] rfl _ hbu) hH ?_
    try simp only [Act.put, List.setIfInBounds_toArray, List.set_cons_zero, List.set_cons_succ]
    refine wpAnyH_take (i := 5) (oi := { dst := some 6, op := Op.assign (Operand.tmp 68), type := 9, pos := "enc.go:99", after := _, guard := none }) (v := _) rfl (by kernel_rfl) (by kernel_rfl) (by kernel_rfl) (fun _ _ _ h => h) (.inl ⟨by rfl, fun w hS => by (go_simp; try rfl)⟩) hH ?_
    try simp only [Act.put, List.setIfInBounds_toArray, List.set_cons_zero, List.set_cons_succ]
    refine wpAnyH_ready (rs := [6]) (by kernel_rfl) (by simp) ?_
    refine AllReadyH.cons (o := { dst := none, op := Op.store 36 (Operand.tmp 7) (Operand.tmp 72), type := 0, pos := "enc.go:99", after := _, guard := none }) rfl (fun K hK => ?_) AllReadyH.nil
    rw [if_pos (by rfl)]
    refine wp_st 36 rfl w_EEnc rfl rfl bk_ hz55 LZ.sz one_ ?_
    refine hK.out _ _ ⟨bk_, bk_⟩ (fun hH => ?_)
    clear hK K
    try simp only [Act.put]
    refine wpAnyH_take (i := 7) (oi := { dst := some 8, op := Op.assign (Operand.const (Value.int IntKind.i64 0)), type := 37, pos := "enc.go:99", after := _, guard := none }) (v := _) rfl (by kernel_rfl) (by kernel_rfl) (by kernel_rfl) (fun _ _ _ h => h) (.inl ⟨by rfl, fun w hS => by (go_simp; try rfl)⟩) hH ?_
    try simp only [Act.put, List.setIfInBounds_toArray, List.set_cons_zero, List.set_cons_succ]
    refine wpAnyH_done (by kernel_rfl) ?_ _
    go_wp2_with fail
    exact bodyPost_ret (v := .tuple #[.string PK, .agg (arrV (encL F FN NX)), .int .i64 0]) (res_tct Tryz.results11 rfl rfl w_EEnc (Blk.setRow hO.drew) LZ.sz rfl) rfl ⟨rfl, by (try rw [hB]); exact Below.setRow hfar.drew (by omega) _⟩
end Go.Proofs.YthpjkgpngbdhbaaGreatDoor
