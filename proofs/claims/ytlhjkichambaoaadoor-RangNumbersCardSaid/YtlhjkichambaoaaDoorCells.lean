/- The walk of spoollaw07.cells: those of a list made cells. -/
import Derived.Test.YtlhjkichambaoaaDoorBase
import Derived.Test.YtlhjkichambaoaaDoorSpecRang
namespace Go.Proofs.YtlhjkichambaoaaDoor
open Go.RowKit

abbrev C3 := Int × Int × Int
/-- A cell out of any three numbers. -/
def fixC (c : C3) : C3 := ((c.1 % 32768) % (1 + c.2.2 % 32768), 1 + (c.2.1 % 32768) % (1 + c.2.2 % 32768 - (c.1 % 32768) % (1 + c.2.2 % 32768)), 1 + c.2.2 % 32768)
theorem fixC_cell (c : C3) : Sp.cellIs (fixC c).1 (fixC c).2.1 (fixC c).2.2 := by
  obtain ⟨x, y, t⟩ := c
  simp only [fixC]
  have h1 : 0 ≤ t % 32768 ∧ t % 32768 < 32768 := by omega
  have h2 : 0 ≤ x % 32768 % (1 + t % 32768) := Int.emod_nonneg _ (by omega)
  have h3 : x % 32768 % (1 + t % 32768) < 1 + t % 32768 := Int.emod_lt_of_pos _ (by omega)
  generalize x % 32768 % (1 + t % 32768) = s at h2 h3
  have h4 : 0 ≤ y % 32768 % (1 + t % 32768 - s) := Int.emod_nonneg _ (by omega)
  have h5 : y % 32768 % (1 + t % 32768 - s) < 1 + t % 32768 - s := Int.emod_lt_of_pos _ (by omega)
  unfold Sp.cellIs
  omega
def flat3 (l : List C3) : List Value := l.flatMap fun c => [.int .i64 c.1, .int .i64 c.2.1, .int .i64 c.2.2]
theorem flat3_len (l : List C3) : (flat3 l).length = l.length * 3 := by
  induction l with
  | nil => rfl
  | cons c l ih => simp only [flat3, List.flatMap_cons, List.length_append, List.length_cons, List.length_nil] at ih ⊢; omega
theorem flat3_append (l m : List C3) : flat3 (l ++ m) = flat3 l ++ flat3 m := by simp [flat3]
def I64 (x : Int) : Prop := -9223372036854775808 ≤ x ∧ x ≤ 9223372036854775807
/-- A slice that came in, of cells: each of its three numbers lies in memory. -/
def Three (W : World) (v : Value) (l : List C3) : Prop :=
  (v = .slice none 0 0 ∧ l = []) ∨ ∃ (a : Addr) (cap : Nat), v = .slice (some a) l.length cap ∧ l.length ≤ cap ∧ cap ≤ 9223372036854775807 ∧
    ∀ (i : Nat) (c : C3), l[i]? = some c → a.block < W.heap.size ∧ W.cell? (a.add (i * 3)) = some (.int .i64 c.1) ∧ W.cell? ⟨(a.add (i * 3)).block, (a.add (i * 3)).off + 1, none⟩ = some (.int .i64 c.2.1) ∧ W.cell? ⟨(a.add (i * 3)).block, (a.add (i * 3)).off + 2, none⟩ = some (.int .i64 c.2.2) ∧ I64 c.1 ∧ I64 c.2.1 ∧ I64 c.2.2
theorem i64_and15 (n : Int) : bits .and .i64 n 32767 = n % 32768 := by
  have h127 : (BitVec.ofInt 64 32767).toNat = 2 ^ 15 - 1 := by decide
  have key : (BitVec.ofInt 64 n &&& BitVec.ofInt 64 32767).toNat = (n % ((2 ^ 64 : Nat) : Int)).toNat % 2 ^ 15 := by
    rw [BitVec.toNat_and, BitVec.toNat_ofInt, h127, Nat.and_two_pow_sub_one_eq_mod]
  show IntKind.i64.wrap ((BitVec.ofInt 64 n &&& BitVec.ofInt 64 32767).toNat : Nat) = n % 32768
  rw [key, IntKind.wrap_i64]
  omega
theorem add_block (a : Addr) (n : Nat) : (a.add n).block = a.block := by unfold Addr.add; split <;> rfl
theorem infoCell : (Tryd.prog.info? 34).map (fun i => (i.zero, i.size, i.bytes)) = some (some (.agg #[.int .i64 0, .int .i64 0, .int .i64 0]), 3, 24) := by kernel_rfl

/-- Those that are looked at. -/
def goodCells (l : List C3) : List C3 := (l.map fixC).take 100
theorem goodCells_cell {l : List C3} {c : C3} (h : c ∈ goodCells l) : Sp.cellIs c.1 c.2.1 c.2.2 := by
  obtain ⟨d, _, rfl⟩ := List.mem_map.1 (List.mem_of_mem_take h)
  exact fixC_cell d
theorem goodCells_len (l : List C3) : (goodCells l).length ≤ 100 := by unfold goodCells; rw [List.length_take]; omega
def RetCells (w : World) (l : List C3) (e : Ending) (w' : World) : Prop :=
  ∃ v, e = .returned v ∧ w'.ownsRow w.heap.size 34 3 v (goodCells l).length (flat3 (goodCells l)) ∧ Below w.heap.size w w'

set_option maxRecDepth 100000 in
set_option maxHeartbeats 1600000 in
theorem gcells_any (v : Value) (l : List C3) (w : World) (h3 : Three w v l) : Calls Tryd.prog 20 #[v] w (RetCells w l) := by
  obtain ⟨i0, hi, hz0, hz1, hz2⟩ := info_parts infoCell
  rcases h3 with ⟨rfl, rfl⟩ | ⟨a, cap, rfl, hc1, hc2, hcl⟩
  · go_enter Tryd.func20, Tryd.ntmps20
    go_wp2
    refine wp_loop_rounds 1 ?_
    rw [rounds_succ]
    go_wp2
    go_ret
    exact ⟨_, rfl, World.ownsRow_nil _ _ _ _, Below.refl _ _⟩
  · have HC := Lib.hid hcl
    clear hcl
    obtain ⟨n, hn⟩ : ∃ n, l.length = n := ⟨_, rfl⟩
    obtain ⟨M, hM⟩ : ∃ M, l.map fixC = M := ⟨_, rfl⟩
    have HM := Lib.hid hM
    clear hM
    rw [hn] at hc1 ⊢
    have HN := Lib.hid hn
    clear hn
    go_enter Tryd.func20, Tryd.ntmps20
    go_wp2
    go_loopw [3, 4] (fun v i wr => ∃ (k : Nat), k ≤ n ∧ k ≤ 100 ∧ i = .int .i64 k ∧ wr.ownsRow w.heap.size 34 3 v k (flat3 (M.take k)) ∧ Below w.heap.size w wr) (fun _ i _ => 100 - (intOf i).toNat)
    case atStart => exact ⟨0, Nat.zero_le _, Nat.zero_le _, rfl, World.ownsRow_nil _ _ _ _, Below.refl _ _⟩
    case round =>
      obtain ⟨k, hk, hk1, rfl, hRw, hb⟩ := hrel
      by_cases hlt : k < n
      · by_cases hlt2 : k < 100
        · have hkl : k < l.length := by rw [HN.out]; exact hlt
          obtain ⟨hab, q1, q2, q3, q4, q5, q6⟩ := HC.out k _ (List.getElem?_eq_getElem hkl)
          obtain ⟨c, hc⟩ : ∃ c, l[k] = c := ⟨_, rfl⟩
          rw [hc] at q1 q2 q3 q4 q5 q6
          have HL := Lib.hid (show l[k]? = some c by rw [List.getElem?_eq_getElem hkl, hc])
          clear hc hkl
          obtain ⟨x, y, t⟩ := c
          simp only [I64] at q1 q2 q3 q4 q5 q6
          have p1 := (hb.cell (p := a.add (k * 3)) (by rw [add_block]; exact hab)).trans q1
          have p2 := (hb.cell (p := ⟨(a.add (k * 3)).block, (a.add (k * 3)).off + 1, none⟩) (by simp only [add_block]; exact hab)).trans q2
          have p3 := (hb.cell (p := ⟨(a.add (k * 3)).block, (a.add (k * 3)).off + 2, none⟩) (by simp only [add_block]; exact hab)).trans q3
          clear q1 q2 q3
          have hx := Int.emod_nonneg x (show (32768 : Int) ≠ 0 by decide)
          have hx' := Int.emod_lt_of_pos x (show (0 : Int) < 32768 by decide)
          have ht := Int.emod_nonneg t (show (32768 : Int) ≠ 0 by decide)
          have ht' := Int.emod_lt_of_pos t (show (0 : Int) < 32768 by decide)
          have hy := Int.emod_nonneg y (show (32768 : Int) ≠ 0 by decide)
          have hy' := Int.emod_lt_of_pos y (show (0 : Int) < 32768 by decide)
          have e1 := i64_and15 x
          have e2 := i64_and15 y
          have e3 := i64_and15 t
          have hs := Int.emod_nonneg (x % 32768) (show (1 + t % 32768) ≠ 0 by omega)
          have hs' := Int.emod_lt_of_pos (x % 32768) (show (0 : Int) < 1 + t % 32768 by omega)
          have hw := Int.emod_nonneg (y % 32768) (show (1 + t % 32768 - x % 32768 % (1 + t % 32768)) ≠ 0 by omega)
          have hw' := Int.emod_lt_of_pos (y % 32768) (show (0 : Int) < 1 + t % 32768 - x % 32768 % (1 + t % 32768) by omega)
          obtain ⟨s3, hs3⟩ : ∃ s3, x % 32768 % (1 + t % 32768) = s3 := ⟨_, rfl⟩
          have hfix : fixC (x, y, t) = (s3, 1 + y % 32768 % (1 + t % 32768 - s3), 1 + t % 32768) := by simp only [fixC, hs3]
          rw [hs3] at hs hs' hw hw'
          have HF := Lib.hid hfix
          clear hfix
          go_wp2_with (at_builtin; refine wpList_append_lies _ rfl (.tmp 43) (.tmp 45) 22 rfl w.heap.size 34 i0 (.agg #[.int .i64 0, .int .i64 0, .int .i64 0]) 3 24 Tryd.underlying22 hi hz0 hz1 hz2 rfl (by decide) u3 k (flat3 (M.take k)) rfl ((hRw.alloc _).alloc _) ⟨wr.heap.size + 1, 0, none⟩ 1 1 [.int .i64 s3, .int .i64 (1 + y % 32768 % (1 + t % 32768 - s3)), .int .i64 (1 + t % 32768)] rfl rfl (World.news_of_block (by have h := World.alloc_heap_new (wr.alloc (.cells #[.int .i64 s3, .int .i64 (1 + y % 32768 % (1 + t % 32768 - s3)), .int .i64 (1 + t % 32768)] 34)) (.cells #[.int .i64 s3, .int .i64 (1 + y % 32768 % (1 + t % 32768 - s3)), .int .i64 (1 + t % 32768)] 34); rw [World.size_alloc] at h; exact h)) (by simp [Value.oneCell']) (by decide) (by unfold maxLen; omega) (by omega) (by simp only [World.size_alloc]; have := hb.size; omega) _ rfl ?_; intro gb capb w3 hown3 hgrow3 hat3 hlt3)
          have hsz := hb.size
          have hb3 : Below w.heap.size w w3 := ((hb.alloc hsz _).alloc (by simp only [World.size_alloc]; omega) _).grown hgrow3 (by simp only [World.size_alloc]; omega) (fun j hj => (World.ownsRow.lt hRw j hj).1)
          go_roundw
          case rel =>
            refine ⟨k + 1, by omega, by omega, by go_num, ?_, hb3⟩
            have h1 : M[k]? = some (s3, 1 + y % 32768 % (1 + t % 32768 - s3), 1 + t % 32768) := by
              rw [← HM.out, List.getElem?_map, HL.out, Option.map_some, HF.out]
            rw [List.take_add_one, h1, Option.toList_some, flat3_append]
            exact hown3
          case measure => simp [intOf]; omega
        · obtain rfl : k = 100 := by omega
          go_wp2_with fail
          go_ret
          refine ⟨_, rfl, ?_, hb⟩
          have hl : (goodCells l).length = 100 := by unfold goodCells; rw [HM.out, List.length_take, ← HM.out, List.length_map, HN.out]; omega
          rw [hl, goodCells, HM.out]
          exact hRw
      · obtain rfl : k = n := by omega
        go_wp2_with fail
        go_ret
        refine ⟨_, rfl, ?_, hb⟩
        have hl : (goodCells l).length = k := by unfold goodCells; rw [HM.out, List.length_take, ← HM.out, List.length_map, HN.out]; omega
        have hl2 : goodCells l = M.take k := by
          unfold goodCells
          have hMl : M.length = k := by rw [← HM.out, List.length_map, HN.out]
          rw [HM.out, List.take_of_length_le (by omega), List.take_of_length_le (by omega)]
        rw [hl, hl2]
        exact hRw
end Go.Proofs.YtlhjkichambaoaaDoor
