/-
  Layer 17: awake, in plain Lean.
-/
import Derived.Test.YthdfplafihmejaaGreatVPlain2
import Derived.Test.YthdfplafihmejaaGreatQOk
namespace Go.Proofs.YthdfplafihmejaaGreat
open Go.RowKit Go.Maps

deriving instance DecidableEq for DDec
def k17 (i : Nat) : ByteArray := ⟨#[32, UInt8.ofNat i]⟩
def n17 : ByteArray := ⟨#[96, 1]⟩
def aw17R : List BRul := [(n17, k17 1)]
def aw17C : List BCert := [⟨6, 8193, k17 2, [n17], 0, 0, 0⟩]
def aw17L : List BEnt := [(0, [n17])]
def aw17S : ASt := ⟨[0], [(n17, k17 1), (n17, k17 2)]⟩
def aw17P : BProof := ⟨[⟨0, [[(0, 0)]]⟩], [(0, 1)]⟩
theorem aw17_run : acceptE aw17R aw17C 9 = .ok aw17S := of_isOk13 (by decide +kernel)
theorem aw17_make : makeE aw17R aw17C n17 (k17 2) 9 = (0, aw17P) := makeE_ok aw17_run (by decide +kernel) (by decide +kernel) (by decide +kernel)
theorem aw17_d : decE aw17R aw17C aw17L 0 [k17 2] 9 = (0, ⟨1, 0, false, aw17S.rules⟩) := by decide +kernel
theorem aw17_d3 : decE aw17R aw17C aw17L 0 [k17 3] 9 = (0, ⟨0, -1, false, aw17S.rules⟩) := by decide +kernel
theorem aw17_n : decE aw17R aw17C aw17L 0 [n17] 1 = (0, ⟨1, 0, true, []⟩) := by decide +kernel
theorem aw17_o : decE aw17R aw17C aw17L 0 [k17 3] 1 = (0, ⟨2, 0, false, []⟩) := by decide +kernel
def aw17Y : BWhy := ⟨0, [0], [aw17P]⟩
theorem aw17_e : explE aw17R aw17C aw17L 0 [k17 2] 9 = (1, aw17Y, 0) := by
 unfold explE
 rw [aw17_d, if_pos ⟨rfl, rfl⟩]
 have t : toW ⟨1, 0, false, aw17S.rules⟩ 9 [k17 2] n17 = 0 := by decide +kernel
 have w : whoE aw17L 0 = [n17] := rfl
 unfold whyE
 simp only [w, List.map_cons, List.map_nil, t]
 unfold prfW
 rw [if_neg (by decide), t]
 show ((1 : Int), (⟨0, [0], [(makeE aw17R aw17C n17 (k17 2) 9).2]⟩ : BWhy), (0 : Int)) = _
 rw [aw17_make]
 rfl
theorem aw17_z : explE aw17R aw17C aw17L 0 [n17] 1 = (1, ⟨0, [0], [⟨[], []⟩]⟩, 0) := by
 unfold explE
 rw [aw17_n, if_pos ⟨rfl, rfl⟩]
 have t : toW ⟨1, 0, true, []⟩ 1 [n17] n17 = 0 := by decide +kernel
 have w : whoE aw17L 0 = [n17] := rfl
 unfold whyE
 simp only [w, List.map_cons, List.map_nil, t]
 unfold prfW
 rw [if_pos rfl]
 rfl
theorem aw17_c : chkE aw17R aw17C aw17L 0 [k17 2] aw17Y = 0 := by decide +kernel
theorem aw17_c3 : chkE aw17R aw17C aw17L 0 [k17 3] aw17Y = 13 := by decide +kernel
end Go.Proofs.YthdfplafihmejaaGreat
