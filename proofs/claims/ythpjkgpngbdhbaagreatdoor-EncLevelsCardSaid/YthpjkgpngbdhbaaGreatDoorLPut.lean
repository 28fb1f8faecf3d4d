/- The walk of lapl.Put. -/
import Derived.Test.YthpjkgpngbdhbaaGreatDoorLot1
set_option linter.unusedSimpArgs false
set_option linter.unusedVariables false
namespace Go.Proofs.YthpjkgpngbdhbaaGreatDoor
open Go.RowKit

theorem Cell_atE {v a c : Int} {ok : Bool} (h : Sp.cellOf v = (a, c, ok)) (w : World) :
    Calls Tryz.prog 107 #[.int .i64 v] w fun e W' => e = .returned (.tuple #[.int .i64 a, .int .i64 c, .bool ok]) ∧ Below w.heap.size w W' :=
  (Cell_any v w).mono fun e W' ⟨he, hb⟩ => ⟨by rw [he, h], hb⟩
set_option maxHeartbeats 800000 in
theorem LaplPut_any (g : Nat) {b : Int} {e : Sp.Enc} (hd : e.Ok b) (hb : b ≤ 1000000000) (x : Int) (h1 : -24 ≤ x) (h2 : x ≤ 24) (v : Value) (w : World) (hB : Blk w g (encC e v) 147) (hR : Row w 5 v (bytesV e.out)) :
    Calls Tryz.prog 65 #[.pointer (some ⟨g, 0, none⟩), .int .i64 x] w fun r w' => r = .returned (.int .i64 0) ∧ ∃ v', Blk w' g (encC (e.put (Sp.cellOf x).1 (Sp.cellOf x).2.1 32768) v') 147 ∧ Row w' 5 v' (bytesV (e.put (Sp.cellOf x).1 (Sp.cellOf x).2.1 32768).out) ∧
      Kept (EncS g v) w w' ∧ (∀ k, v'.ownBlock = some k → v.ownBlock = some k ∨ w.heap.size ≤ k) := by
  obtain ⟨a, c, hci⟩ := Sp.cell_is x h1 h2
  rw [hci.eq]
  have HC := Lib.hid hci.eq
  have hcell : Sp.cellIs a c 32768 := by have := hci.a0; have := hci.c8; have := hci.ac; unfold Sp.cellIs; omega
  clear hci
  go_enter Tryz.func65, Tryz.ntmps65
  go_wp2_with fail
  refine (Cell_atE HC.out _).mono ?_
  rintro r w1 ⟨rfl, hb1⟩
  have hB1 := hB.newB hb1
  have hR1 := hR.keep (Kept.of_below (S := fun _ => False) hb1) (fun _ _ h => h)
  go_wp2_with fail
  refine (Put_any g hd hb hcell v _ hB1 hR1).mono ?_
  rintro r w2 ⟨rfl, v2, hB2, hR2, hK2, hF2⟩
  go_wp2_with fail
  go_ret
  refine ⟨rfl, v2, hB2, hR2, (Kept.of_below hb1).trans hK2, fun k hk => (hF2 k hk).imp id (fun h => Nat.le_trans hb1.size h)⟩
end Go.Proofs.YthpjkgpngbdhbaaGreatDoor
