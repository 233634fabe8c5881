/- Towards TopSources; no condition. Texts laid together, without what none of them names (wip/block/prune.py): SxT, SxW, SxX, SxY, SxZ, SyA, SyB, SyC, SyD, SyE, SyF, SyG, SyI, SyJ, SyK, Sent, Sn1, Sc1, SyH, Sl1, Sc2, Sc3, Sc4, Sc5, Sl2, Sl3, Sl4, Sl5, Sr1, Sr2. -/
import Derived.Test.YthjldemjipnmdaaGreatDoorV1
import Derived.Test.YthjldemjipnmdaaGreatDoorProg
import Derived.KernelRfl
import Derived.Lib.SliceRun
import Derived.Lib.OthersKept
import Derived.MapKept
import Derived.Lib.SplitLaws
namespace Go.Proofs.YthjldemjipnmdaaGreatDoor.Sx
open Go.RowKit
theorem TyOk.of {P : Program} {t : Nat} {y : Ty} (z : Value) (d : TypeDesc) (h : (P.info? t).map (fun i => (i.zero, i.size, i.bytes)) = some (some z, y.size, y.bytes)) (hz : z.cells.toList = y.zero) (ha : y.isAgg = true → z = .agg z.cells) (h1 : y.zero.all (fun u => u.oneCell') = true) (hl : y.zero.length = y.size) (hu : P.underlying t = some d) (hk : kindOk d y.kind)
  (hp : ∀ fl, y.kind = .struct fl → ∃ fs : Array Field, P.underlying t = some (.struct fs) ∧ fs.toList.mapM (fun f => (P.info? f.type).map fun i => (f.offset, i.size)) = some y.plc) : TyOk P t y := by
 refine ⟨?_, ⟨d, hu, hk⟩, hp⟩
 cases hi : P.info? t with
 | none => rw [hi] at h; cases h
 | some i =>
  rw [hi] at h
  simp only [Option.map_some, Option.some.injEq, Prod.mk.injEq] at h
  exact ⟨i, z, rfl, h.2.1, h.2.2, h.1, hz, ha, fun U hU => List.all_eq_true.1 h1 U hU, hl⟩
def y3 : Ty := ⟨1, 8, [.int .i64 0], .int .i64, []⟩
theorem ty3 : TyOk Tryz.prog 3 y3 := .of (.int .i64 0) _ (by kernel_rfl) rfl ((fun h => by cases h)) rfl rfl Tryz.underlying3 rfl ((fun _ h => by cases h))
def y4 : Ty := ⟨1, 1, [.bool false], .bool, []⟩
theorem ty4 : TyOk Tryz.prog 4 y4 := .of (.bool false) _ (by kernel_rfl) rfl ((fun h => by cases h)) rfl rfl Tryz.underlying4 rfl ((fun _ h => by cases h))
def y5 : Ty := ⟨1, 1, [.int .u8 0], .int .u8, []⟩
theorem ty5 : TyOk Tryz.prog 5 y5 := .of (.int .u8 0) _ (by kernel_rfl) rfl ((fun h => by cases h)) rfl rfl Tryz.underlying5 rfl ((fun _ h => by cases h))
def y9 : Ty := ⟨1, 16, [.string ⟨#[]⟩], .string, []⟩
theorem ty9 : TyOk Tryz.prog 9 y9 := .of (.string ⟨#[]⟩) _ (by kernel_rfl) rfl ((fun h => by cases h)) rfl rfl Tryz.underlying9 rfl ((fun _ h => by cases h))
def y21 : Ty := ⟨1, 4, [.int .i32 0], .int .i32, []⟩
theorem ty21 : TyOk Tryz.prog 21 y21 := .of (.int .i32 0) _ (by kernel_rfl) rfl ((fun h => by cases h)) rfl rfl Tryz.underlying21 rfl ((fun _ h => by cases h))
def y22 : Ty := ⟨1, 8, [.nilFunc], .other, []⟩
theorem ty22 : TyOk Tryz.prog 22 y22 := .of (.nilFunc) _ (by kernel_rfl) rfl ((fun h => by cases h)) rfl rfl Tryz.underlying22 rfl ((fun _ h => by cases h))
def y23 : Ty := ⟨1, 24, [.slice none 0 0], .slice 42, []⟩
theorem ty23 : TyOk Tryz.prog 23 y23 := .of (.slice none 0 0) _ (by kernel_rfl) rfl ((fun h => by cases h)) rfl rfl Tryz.underlying23 rfl ((fun _ h => by cases h))
def y25 : Ty := ⟨3, 40, [.slice none 0 0, .bool false, .int .i64 0], .struct [(0, 23), (1, 4), (2, 3)], [(0, 1), (1, 1), (2, 1)]⟩
theorem ty25 : TyOk Tryz.prog 25 y25 := .of (.agg ([.slice none 0 0, .bool false, .int .i64 0]).toArray) _ (by kernel_rfl) rfl (fun _ => rfl) rfl rfl Tryz.underlying25 ⟨_, rfl, rfl⟩ (fun _ _ => ⟨_, Tryz.underlying25, by kernel_rfl⟩)
def y26 : Ty := ⟨1, 8, [.int .i64 0], .int .i64, []⟩
theorem ty26 : TyOk Tryz.prog 26 y26 := .of (.int .i64 0) _ (by kernel_rfl) rfl ((fun h => by cases h)) rfl rfl Tryz.underlying26 rfl ((fun _ h => by cases h))
def y28 : Ty := ⟨2, 16, [.int .i64 0, .int .i64 0], .struct [(0, 3), (1, 26)], [(0, 1), (1, 1)]⟩
theorem ty28 : TyOk Tryz.prog 28 y28 := .of (.agg ([.int .i64 0, .int .i64 0]).toArray) _ (by kernel_rfl) rfl (fun _ => rfl) rfl rfl Tryz.underlying28 ⟨_, rfl, rfl⟩ (fun _ _ => ⟨_, Tryz.underlying28, by kernel_rfl⟩)
def y31 : Ty := ⟨1, 24, [.slice none 0 0], .slice 5, []⟩
theorem ty31 : TyOk Tryz.prog 31 y31 := .of (.slice none 0 0) _ (by kernel_rfl) rfl ((fun h => by cases h)) rfl rfl Tryz.underlying31 rfl ((fun _ h => by cases h))
def y34 : Ty := ⟨1, 24, [.slice none 0 0], .slice 75, []⟩
theorem ty34 : TyOk Tryz.prog 34 y34 := .of (.slice none 0 0) _ (by kernel_rfl) rfl ((fun h => by cases h)) rfl rfl Tryz.underlying34 rfl ((fun _ h => by cases h))
def y35 : Ty := ⟨1, 24, [.slice none 0 0], .slice 138, []⟩
theorem ty35 : TyOk Tryz.prog 35 y35 := .of (.slice none 0 0) _ (by kernel_rfl) rfl ((fun h => by cases h)) rfl rfl Tryz.underlying35 rfl ((fun _ h => by cases h))
def y36 : Ty := ⟨1, 24, [.slice none 0 0], .slice 80, []⟩
theorem ty36 : TyOk Tryz.prog 36 y36 := .of (.slice none 0 0) _ (by kernel_rfl) rfl ((fun h => by cases h)) rfl rfl Tryz.underlying36 rfl ((fun _ h => by cases h))
def y38 : Ty := ⟨5, 96, [.slice none 0 0, .slice none 0 0, .slice none 0 0, .string ⟨#[]⟩, .int .i64 0], .struct [(0, 34), (1, 35), (2, 36), (3, 9), (4, 3)], [(0, 1), (1, 1), (2, 1), (3, 1), (4, 1)]⟩
theorem ty38 : TyOk Tryz.prog 38 y38 := .of (.agg ([.slice none 0 0, .slice none 0 0, .slice none 0 0, .string ⟨#[]⟩, .int .i64 0]).toArray) _ (by kernel_rfl) rfl (fun _ => rfl) rfl rfl Tryz.underlying38 ⟨_, rfl, rfl⟩ (fun _ _ => ⟨_, Tryz.underlying38, by kernel_rfl⟩)
def y42 : Ty := ⟨3, 24, [.int .i64 0, .int .i64 0, .bool false], .struct [(0, 3), (1, 3), (2, 4)], [(0, 1), (1, 1), (2, 1)]⟩
theorem ty42 : TyOk Tryz.prog 42 y42 := .of (.agg ([.int .i64 0, .int .i64 0, .bool false]).toArray) _ (by kernel_rfl) rfl (fun _ => rfl) rfl rfl Tryz.underlying42 ⟨_, rfl, rfl⟩ (fun _ _ => ⟨_, Tryz.underlying42, by kernel_rfl⟩)
def y51 : Ty := ⟨1, 8, [.pointer none], .other, []⟩
theorem ty51 : TyOk Tryz.prog 51 y51 := .of (.pointer none) _ (by kernel_rfl) rfl ((fun h => by cases h)) rfl rfl Tryz.underlying51 rfl ((fun _ h => by cases h))
def y60 : Ty := ⟨5, 96, [.slice none 0 0, .slice none 0 0, .slice none 0 0, .string ⟨#[]⟩, .int .i64 0], .struct [(0, 38)], [(0, 5)]⟩
theorem ty60 : TyOk Tryz.prog 60 y60 := .of (.agg ([.slice none 0 0, .slice none 0 0, .slice none 0 0, .string ⟨#[]⟩, .int .i64 0]).toArray) _ (by kernel_rfl) rfl (fun _ => rfl) rfl rfl Tryz.underlying60 ⟨_, rfl, rfl⟩ (fun _ _ => ⟨_, Tryz.underlying60, by kernel_rfl⟩)
def y62 : Ty := ⟨5, 96, [.slice none 0 0, .slice none 0 0, .slice none 0 0, .string ⟨#[]⟩, .int .i64 0], .struct [(0, 60)], [(0, 5)]⟩
theorem ty62 : TyOk Tryz.prog 62 y62 := .of (.agg ([.slice none 0 0, .slice none 0 0, .slice none 0 0, .string ⟨#[]⟩, .int .i64 0]).toArray) _ (by kernel_rfl) rfl (fun _ => rfl) rfl rfl Tryz.underlying62 ⟨_, rfl, rfl⟩ (fun _ _ => ⟨_, Tryz.underlying62, by kernel_rfl⟩)
def y67 : Ty := ⟨2, 16, [.int .i64 0, .int .i64 0], .struct [(0, 3), (1, 3)], [(0, 1), (1, 1)]⟩
theorem ty67 : TyOk Tryz.prog 67 y67 := .of (.agg ([.int .i64 0, .int .i64 0]).toArray) _ (by kernel_rfl) rfl (fun _ => rfl) rfl rfl Tryz.underlying67 ⟨_, rfl, rfl⟩ (fun _ _ => ⟨_, Tryz.underlying67, by kernel_rfl⟩)
def y75 : Ty := ⟨3, 32, [.int .i64 0, .bool false, .string ⟨#[]⟩], .struct [(0, 3), (1, 4), (2, 9)], [(0, 1), (1, 1), (2, 1)]⟩
theorem ty75 : TyOk Tryz.prog 75 y75 := .of (.agg ([.int .i64 0, .bool false, .string ⟨#[]⟩]).toArray) _ (by kernel_rfl) rfl (fun _ => rfl) rfl rfl Tryz.underlying75 ⟨_, rfl, rfl⟩ (fun _ _ => ⟨_, Tryz.underlying75, by kernel_rfl⟩)
def y80 : Ty := ⟨2, 16, [.int .i64 0, .int .i64 0], .struct [(0, 3), (1, 3)], [(0, 1), (1, 1)]⟩
theorem ty80 : TyOk Tryz.prog 80 y80 := .of (.agg ([.int .i64 0, .int .i64 0]).toArray) _ (by kernel_rfl) rfl (fun _ => rfl) rfl rfl Tryz.underlying80 ⟨_, rfl, rfl⟩ (fun _ _ => ⟨_, Tryz.underlying80, by kernel_rfl⟩)
def y83 : Ty := ⟨1, 8, [.nilFunc], .other, []⟩
theorem ty83 : TyOk Tryz.prog 83 y83 := .of (.nilFunc) _ (by kernel_rfl) rfl ((fun h => by cases h)) rfl rfl Tryz.underlying83 rfl ((fun _ h => by cases h))
def y86 : Ty := ⟨1, 4, [.int .u32 0], .int .u32, []⟩
theorem ty86 : TyOk Tryz.prog 86 y86 := .of (.int .u32 0) _ (by kernel_rfl) rfl ((fun h => by cases h)) rfl rfl Tryz.underlying86 rfl ((fun _ h => by cases h))
def y87 : Ty := ⟨5, 20, [.int .u32 0, .int .u32 0, .int .u32 0, .int .u32 0, .int .u32 0], .array 5 86, []⟩
theorem ty87 : TyOk Tryz.prog 87 y87 := .of (.agg ([.int .u32 0, .int .u32 0, .int .u32 0, .int .u32 0, .int .u32 0]).toArray) _ (by kernel_rfl) rfl (fun _ => rfl) rfl rfl Tryz.underlying87 rfl ((fun _ h => by cases h))
def y89 : Ty := ⟨20, 20, List.replicate 20 (.int .u8 0), .array 20 5, []⟩
theorem ty89 : TyOk Tryz.prog 89 y89 := .of (.agg (List.replicate 20 (.int .u8 0)).toArray) _ (by kernel_rfl) rfl (fun _ => rfl) rfl rfl Tryz.underlying89 rfl ((fun _ h => by cases h))
def y102 : Ty := ⟨1, 8, [.map none], .other, []⟩
theorem ty102 : TyOk Tryz.prog 102 y102 := .of (.map none) _ (by kernel_rfl) rfl ((fun h => by cases h)) rfl rfl Tryz.underlying102 rfl ((fun _ h => by cases h))
def y104 : Ty := ⟨6, 64, [.slice none 0 0, .bool false, .int .i64 0, .int .i64 0, .bool false, .map none], .struct [(0, 25), (3, 3), (4, 4), (5, 102)], [(0, 3), (3, 1), (4, 1), (5, 1)]⟩
theorem ty104 : TyOk Tryz.prog 104 y104 := .of (.agg ([.slice none 0 0, .bool false, .int .i64 0, .int .i64 0, .bool false, .map none]).toArray) _ (by kernel_rfl) rfl (fun _ => rfl) rfl rfl Tryz.underlying104 ⟨_, rfl, rfl⟩ (fun _ _ => ⟨_, Tryz.underlying104, by kernel_rfl⟩)
def y105 : Ty := ⟨1, 24, [.slice none 0 0], .slice 110, []⟩
theorem ty105 : TyOk Tryz.prog 105 y105 := .of (.slice none 0 0) _ (by kernel_rfl) rfl ((fun h => by cases h)) rfl rfl Tryz.underlying105 rfl ((fun _ h => by cases h))
def y107 : Ty := ⟨1, 24, [.slice none 0 0], .slice 9, []⟩
theorem ty107 : TyOk Tryz.prog 107 y107 := .of (.slice none 0 0) _ (by kernel_rfl) rfl ((fun h => by cases h)) rfl rfl Tryz.underlying107 rfl ((fun _ h => by cases h))
def y108 : Ty := ⟨1, 24, [.slice none 0 0], .slice 3, []⟩
theorem ty108 : TyOk Tryz.prog 108 y108 := .of (.slice none 0 0) _ (by kernel_rfl) rfl ((fun h => by cases h)) rfl rfl Tryz.underlying108 rfl ((fun _ h => by cases h))
def y110 : Ty := ⟨4, 72, [.string ⟨#[]⟩, .slice none 0 0, .slice none 0 0, .bool false], .struct [(0, 9), (1, 107), (2, 108), (3, 4)], [(0, 1), (1, 1), (2, 1), (3, 1)]⟩
theorem ty110 : TyOk Tryz.prog 110 y110 := .of (.agg ([.string ⟨#[]⟩, .slice none 0 0, .slice none 0 0, .bool false]).toArray) _ (by kernel_rfl) rfl (fun _ => rfl) rfl rfl Tryz.underlying110 ⟨_, rfl, rfl⟩ (fun _ _ => ⟨_, Tryz.underlying110, by kernel_rfl⟩)
def y117 : Ty := ⟨5, 56, [.slice none 0 0, .bool false, .int .i64 0, .int .i64 0, .int .i64 0], .struct [(0, 25), (3, 3), (4, 3)], [(0, 3), (3, 1), (4, 1)]⟩
theorem ty117 : TyOk Tryz.prog 117 y117 := .of (.agg ([.slice none 0 0, .bool false, .int .i64 0, .int .i64 0, .int .i64 0]).toArray) _ (by kernel_rfl) rfl (fun _ => rfl) rfl rfl Tryz.underlying117 ⟨_, rfl, rfl⟩ (fun _ _ => ⟨_, Tryz.underlying117, by kernel_rfl⟩)
def y125 : Ty := ⟨7, 56, [.int .i64 0, .int .i64 0, .int .i64 0, .int .i64 0, .int .i64 0, .int .i64 0, .int .i64 0], .struct [(0, 3), (1, 3), (2, 3), (3, 3), (4, 3), (5, 3), (6, 3)], [(0, 1), (1, 1), (2, 1), (3, 1), (4, 1), (5, 1), (6, 1)]⟩
theorem ty125 : TyOk Tryz.prog 125 y125 := .of (.agg ([.int .i64 0, .int .i64 0, .int .i64 0, .int .i64 0, .int .i64 0, .int .i64 0, .int .i64 0]).toArray) _ (by kernel_rfl) rfl (fun _ => rfl) rfl rfl Tryz.underlying125 ⟨_, rfl, rfl⟩ (fun _ _ => ⟨_, Tryz.underlying125, by kernel_rfl⟩)
def y135 : Ty := ⟨1, 8, [.nilFunc], .other, []⟩
theorem ty135 : TyOk Tryz.prog 135 y135 := .of (.nilFunc) _ (by kernel_rfl) rfl ((fun h => by cases h)) rfl rfl Tryz.underlying135 rfl ((fun _ h => by cases h))
def y138 : Ty := ⟨2, 16, [.int .i64 0, .int .i64 0], .struct [(0, 3), (1, 3)], [(0, 1), (1, 1)]⟩
theorem ty138 : TyOk Tryz.prog 138 y138 := .of (.agg ([.int .i64 0, .int .i64 0]).toArray) _ (by kernel_rfl) rfl (fun _ => rfl) rfl rfl Tryz.underlying138 ⟨_, rfl, rfl⟩ (fun _ _ => ⟨_, Tryz.underlying138, by kernel_rfl⟩)
def y139 : Ty := ⟨1, 8, [.nilFunc], .other, []⟩
theorem ty139 : TyOk Tryz.prog 139 y139 := .of (.nilFunc) _ (by kernel_rfl) rfl ((fun h => by cases h)) rfl rfl Tryz.underlying139 rfl ((fun _ h => by cases h))
def y143 : Ty := ⟨1, 8, [.int .u64 0], .int .u64, []⟩
theorem ty143 : TyOk Tryz.prog 143 y143 := .of (.int .u64 0) _ (by kernel_rfl) rfl ((fun h => by cases h)) rfl rfl Tryz.underlying143 rfl ((fun _ h => by cases h))
def y146 : Ty := ⟨12, 192, List.replicate 12 (.string ⟨#[]⟩), .array 12 9, []⟩
theorem ty146 : TyOk Tryz.prog 146 y146 := .of (.agg (List.replicate 12 (.string ⟨#[]⟩)).toArray) _ (by kernel_rfl) rfl (fun _ => rfl) rfl rfl Tryz.underlying146 rfl ((fun _ h => by cases h))
def y158 : Ty := ⟨3, 24, [.int .i64 0, .int .i64 0, .int .i64 0], .struct [(0, 3), (1, 3), (2, 3)], [(0, 1), (1, 1), (2, 1)]⟩
theorem ty158 : TyOk Tryz.prog 158 y158 := .of (.agg ([.int .i64 0, .int .i64 0, .int .i64 0]).toArray) _ (by kernel_rfl) rfl (fun _ => rfl) rfl rfl Tryz.underlying158 ⟨_, rfl, rfl⟩ (fun _ _ => ⟨_, Tryz.underlying158, by kernel_rfl⟩)
def y162 : Ty := ⟨1, 8, [.nilFunc], .other, []⟩
theorem ty162 : TyOk Tryz.prog 162 y162 := .of (.nilFunc) _ (by kernel_rfl) rfl ((fun h => by cases h)) rfl rfl Tryz.underlying162 rfl ((fun _ h => by cases h))
def y167 : Ty := ⟨1, 8, [.pointer none], .other, []⟩
theorem ty167 : TyOk Tryz.prog 167 y167 := .of (.pointer none) _ (by kernel_rfl) rfl ((fun h => by cases h)) rfl rfl Tryz.underlying167 rfl ((fun _ h => by cases h))
def y173 : Ty := ⟨1, 24, [.slice none 0 0], .slice 31, []⟩
theorem ty173 : TyOk Tryz.prog 173 y173 := .of (.slice none 0 0) _ (by kernel_rfl) rfl ((fun h => by cases h)) rfl rfl Tryz.underlying173 rfl ((fun _ h => by cases h))
def y175 : Ty := ⟨1, 8, [.pointer none], .other, []⟩
theorem ty175 : TyOk Tryz.prog 175 y175 := .of (.pointer none) _ (by kernel_rfl) rfl ((fun h => by cases h)) rfl rfl Tryz.underlying175 rfl ((fun _ h => by cases h))
def y177 : Ty := ⟨7, 64, [.int .i64 0, .int .i64 0, .int .i64 0, .int .i64 0, .int .i64 0, .string ⟨#[]⟩, .bool false], .struct [(0, 3), (1, 3), (2, 3), (3, 3), (4, 3), (5, 9), (6, 4)], [(0, 1), (1, 1), (2, 1), (3, 1), (4, 1), (5, 1), (6, 1)]⟩
theorem ty177 : TyOk Tryz.prog 177 y177 := .of (.agg ([.int .i64 0, .int .i64 0, .int .i64 0, .int .i64 0, .int .i64 0, .string ⟨#[]⟩, .bool false]).toArray) _ (by kernel_rfl) rfl (fun _ => rfl) rfl rfl Tryz.underlying177 ⟨_, rfl, rfl⟩ (fun _ _ => ⟨_, Tryz.underlying177, by kernel_rfl⟩)
def y206 : Ty := ⟨5, 40, [.int .i64 0, .int .i64 0, .int .i64 0, .int .i64 0, .int .i64 0], .struct [(0, 3), (1, 3), (2, 3), (3, 3), (4, 3)], [(0, 1), (1, 1), (2, 1), (3, 1), (4, 1)]⟩
theorem ty206 : TyOk Tryz.prog 206 y206 := .of (.agg ([.int .i64 0, .int .i64 0, .int .i64 0, .int .i64 0, .int .i64 0]).toArray) _ (by kernel_rfl) rfl (fun _ => rfl) rfl rfl Tryz.underlying206 ⟨_, rfl, rfl⟩ (fun _ _ => ⟨_, Tryz.underlying206, by kernel_rfl⟩)
def y208 : Ty := ⟨17, 152, [.int .i64 0, .bool false, .string ⟨#[]⟩, .int .i64 0, .bool false, .string ⟨#[]⟩, .bool false, .int .i64 0, .int .i64 0, .int .i64 0, .int .i64 0, .int .i64 0, .int .i64 0, .int .i64 0, .int .i64 0, .int .i64 0, .int .i64 0], .struct [(0, 75), (3, 75), (6, 4), (7, 206), (12, 206)], [(0, 3), (3, 3), (6, 1), (7, 5), (12, 5)]⟩
theorem ty208 : TyOk Tryz.prog 208 y208 := .of (.agg ([.int .i64 0, .bool false, .string ⟨#[]⟩, .int .i64 0, .bool false, .string ⟨#[]⟩, .bool false, .int .i64 0, .int .i64 0, .int .i64 0, .int .i64 0, .int .i64 0, .int .i64 0, .int .i64 0, .int .i64 0, .int .i64 0, .int .i64 0]).toArray) _ (by kernel_rfl) rfl (fun _ => rfl) rfl rfl Tryz.underlying208 ⟨_, rfl, rfl⟩ (fun _ _ => ⟨_, Tryz.underlying208, by kernel_rfl⟩)
def y223 : Ty := ⟨1, 8, [.nilFunc], .other, []⟩
theorem ty223 : TyOk Tryz.prog 223 y223 := .of (.nilFunc) _ (by kernel_rfl) rfl ((fun h => by cases h)) rfl rfl Tryz.underlying223 rfl ((fun _ h => by cases h))
def y227 : Ty := ⟨1, 24, [.slice none 0 0], .slice 158, []⟩
theorem ty227 : TyOk Tryz.prog 227 y227 := .of (.slice none 0 0) _ (by kernel_rfl) rfl ((fun h => by cases h)) rfl rfl Tryz.underlying227 rfl ((fun _ h => by cases h))
def y230 : Ty := ⟨1, 8, [.int .u64 0], .int .u64, []⟩
theorem ty230 : TyOk Tryz.prog 230 y230 := .of (.int .u64 0) _ (by kernel_rfl) rfl ((fun h => by cases h)) rfl rfl Tryz.underlying230 rfl ((fun _ h => by cases h))
def y239 : Ty := ⟨5, 20, [.int .u32 0, .int .u32 0, .int .u32 0, .int .u32 0, .int .u32 0], .array 5 86, []⟩
theorem ty239 : TyOk Tryz.prog 239 y239 := .of (.agg ([.int .u32 0, .int .u32 0, .int .u32 0, .int .u32 0, .int .u32 0]).toArray) _ (by kernel_rfl) rfl (fun _ => rfl) rfl rfl Tryz.underlying239 rfl ((fun _ h => by cases h))
def y261 : Ty := ⟨1, 8, [.pointer none], .other, []⟩
theorem ty261 : TyOk Tryz.prog 261 y261 := .of (.pointer none) _ (by kernel_rfl) rfl ((fun h => by cases h)) rfl rfl Tryz.underlying261 rfl ((fun _ h => by cases h))
def y263 : Ty := ⟨18, 168, [.string ⟨#[]⟩, .int .i64 0, .bool false, .string ⟨#[]⟩, .int .i64 0, .bool false, .string ⟨#[]⟩, .bool false, .int .i64 0, .int .i64 0, .int .i64 0, .int .i64 0, .int .i64 0, .int .i64 0, .int .i64 0, .int .i64 0, .int .i64 0, .int .i64 0], .struct [(0, 9), (1, 208)], [(0, 1), (1, 17)]⟩
theorem ty263 : TyOk Tryz.prog 263 y263 := .of (.agg ([.string ⟨#[]⟩, .int .i64 0, .bool false, .string ⟨#[]⟩, .int .i64 0, .bool false, .string ⟨#[]⟩, .bool false, .int .i64 0, .int .i64 0, .int .i64 0, .int .i64 0, .int .i64 0, .int .i64 0, .int .i64 0, .int .i64 0, .int .i64 0, .int .i64 0]).toArray) _ (by kernel_rfl) rfl (fun _ => rfl) rfl rfl Tryz.underlying263 ⟨_, rfl, rfl⟩ (fun _ _ => ⟨_, Tryz.underlying263, by kernel_rfl⟩)
def y264 : Ty := ⟨1, 24, [.slice none 0 0], .slice 22, []⟩
theorem ty264 : TyOk Tryz.prog 264 y264 := .of (.slice none 0 0) _ (by kernel_rfl) rfl ((fun h => by cases h)) rfl rfl Tryz.underlying264 rfl ((fun _ h => by cases h))
def y274 : Ty := ⟨1, 8, [.nilFunc], .other, []⟩
theorem ty274 : TyOk Tryz.prog 274 y274 := .of (.nilFunc) _ (by kernel_rfl) rfl ((fun h => by cases h)) rfl rfl Tryz.underlying274 rfl ((fun _ h => by cases h))
def y279 : Ty := ⟨1, 8, [.pointer none], .other, []⟩
theorem ty279 : TyOk Tryz.prog 279 y279 := .of (.pointer none) _ (by kernel_rfl) rfl ((fun h => by cases h)) rfl rfl Tryz.underlying279 rfl ((fun _ h => by cases h))
def y280 : Ty := ⟨80, 320, List.replicate 80 (.int .u32 0), .array 80 86, []⟩
theorem ty280 : TyOk Tryz.prog 280 y280 := .of (.agg (List.replicate 80 (.int .u32 0)).toArray) _ (by kernel_rfl) rfl (fun _ => rfl) rfl rfl Tryz.underlying280 rfl ((fun _ h => by cases h))
def y284 : Ty := ⟨12, 96, List.replicate 12 (.int .i64 0), .array 12 3, []⟩
theorem ty284 : TyOk Tryz.prog 284 y284 := .of (.agg (List.replicate 12 (.int .i64 0)).toArray) _ (by kernel_rfl) rfl (fun _ => rfl) rfl rfl Tryz.underlying284 rfl ((fun _ h => by cases h))
def y291 : Ty := ⟨1, 8, [.nilFunc], .other, []⟩
theorem ty291 : TyOk Tryz.prog 291 y291 := .of (.nilFunc) _ (by kernel_rfl) rfl ((fun h => by cases h)) rfl rfl Tryz.underlying291 rfl ((fun _ h => by cases h))
def y309 : Ty := ⟨3, 24, [.int .i64 0, .int .i64 0, .int .i64 0], .array 3 3, []⟩
theorem ty309 : TyOk Tryz.prog 309 y309 := .of (.agg ([.int .i64 0, .int .i64 0, .int .i64 0]).toArray) _ (by kernel_rfl) rfl (fun _ => rfl) rfl rfl Tryz.underlying309 rfl ((fun _ h => by cases h))
def tab : Tab := [(3, y3), (4, y4), (5, y5), (9, y9), (21, y21), (22, y22), (23, y23), (25, y25), (26, y26), (28, y28), (31, y31), (34, y34), (35, y35), (36, y36), (38, y38), (42, y42), (51, y51), (60, y60), (62, y62), (67, y67), (75, y75), (80, y80), (83, y83), (86, y86), (87, y87), (89, y89), (102, y102), (104, y104), (105, y105), (107, y107), (108, y108), (110, y110), (117, y117), (125, y125), (135, y135), (138, y138), (139, y139), (143, y143), (146, y146), (158, y158), (162, y162), (167, y167), (173, y173), (175, y175), (177, y177), (206, y206), (208, y208), (223, y223), (227, y227), (230, y230), (239, y239), (261, y261), (263, y263), (264, y264), (274, y274), (279, y279), (280, y280), (284, y284), (291, y291), (309, y309)]
theorem tab_ok : TabOk Tryz.prog tab := .cons ty3 (.cons ty4 (.cons ty5 (.cons ty9 (.cons ty21 (.cons ty22 (.cons ty23 (.cons ty25 (.cons ty26 (.cons ty28 (.cons ty31 (.cons ty34 (.cons ty35 (.cons ty36 (.cons ty38 (.cons ty42 (.cons ty51 (.cons ty60 (.cons ty62 (.cons ty67 (.cons ty75 (.cons ty80 (.cons ty83 (.cons ty86 (.cons ty87 (.cons ty89 (.cons ty102 (.cons ty104 (.cons ty105 (.cons ty107 (.cons ty108 (.cons ty110 (.cons ty117 (.cons ty125 (.cons ty135 (.cons ty138 (.cons ty139 (.cons ty143 (.cons ty146 (.cons ty158 (.cons ty162 (.cons ty167 (.cons ty173 (.cons ty175 (.cons ty177 (.cons ty206 (.cons ty208 (.cons ty223 (.cons ty227 (.cons ty230 (.cons ty239 (.cons ty261 (.cons ty263 (.cons ty264 (.cons ty274 (.cons ty279 (.cons ty280 (.cons ty284 (.cons ty291 (.cons ty309 (TabOk.nil _))))))))))))))))))))))))))))))))))))))))))))))))))))))))))))
end Go.Proofs.YthjldemjipnmdaaGreatDoor.Sx
namespace Go.Proofs.YthjldemjipnmdaaGreatDoor.Sx
open Go.RowKit
def opSlots (l : List Operand) : List Nat := l.filterMap fun | .tmp s => some s | _ => none
structure Dt where
 o : Oper
 rd : List Nat
 t : Tm
 v : AV
 sk : Bool
 ks : List Nat
 ds : List Nat
def waits (o : Oper) : List Nat := (o.after.toList.filter fun e => Region.binds .any e).map (·.on)
def ins : List Nat → List Nat → List Nat
 | s, [] => s
 | s, x :: l => match s.contains x with
  | true => ins s l
  | false => ins (x :: s) l
theorem mem_ins {y : Nat} : ∀ {l s : List Nat}, y ∈ ins s l → y ∈ s ∨ y ∈ l
 | [], _, h => .inl h
 | x :: l, s, h => by
  unfold ins at h
  split at h
  ·rcases mem_ins h with h | h
   ·exact .inl h
   ·exact .inr (List.mem_cons_of_mem _ h)
  ·rcases mem_ins h with h | h
   ·rcases List.mem_cons.1 h with h | h
    ·exact .inr (h ▸ List.mem_cons_self ..)
    ·exact .inl h
   ·exact .inr (List.mem_cons_of_mem _ h)
def preds : List Oper → List (List Nat) → List (List Nat)
 | [], acc => acc
 | o :: l, acc => preds l (acc ++ [(waits o).foldl (fun s j => ins s (j :: (acc.getD j []))) []])
def ordered (pr : List (List Nat)) (i j : Nat) : Bool := (pr.getD i []).contains j || (pr.getD j []).contains i
def slotsOf (x : Dt) : List Nat := x.rd ++ x.o.dst.toList
def meets (a b : List Nat) : Bool := a.any fun x => b.contains x
def drawChk (Ds : List Dt) (pr : List (List Nat)) : Bool :=
 (List.range Ds.length).all fun i => match nthO Ds i with
  | none => false
  | some x => ((waits x.o).all fun j => Nat.blt j i) &&
   ((List.range i).all fun j => match nthO Ds j with
    | none => false
    | some y => (ordered pr i j) || (!meets (slotsOf x) y.o.dst.toList && !meets (slotsOf y) x.o.dst.toList && !meets x.ds y.ds && !meets x.ks y.ds && !meets y.ks x.ds))
inductive Pre (ops : List Oper) : Nat → Nat → Prop
 | one {i j : Nat} {o : Oper} : ops[i]? = some o → j ∈ waits o → Pre ops j i
 | more {i j k : Nat} {o : Oper} : ops[i]? = some o → j ∈ waits o → Pre ops k j → Pre ops k i
theorem preds_ok (all : List Oper) : ∀ (l : List Oper) (acc : List (List Nat)) (pre : List Oper), all = pre ++ l → acc.length = pre.length → (∀ i j : Nat, j ∈ acc.getD i [] → Pre all j i) → ∀ i j : Nat, j ∈ (preds l acc).getD i [] → Pre all j i
 | [], acc, pre, _, _, h => by unfold preds; exact h
 | o :: l, acc, pre, he, hl, h => by
  unfold preds
  refine preds_ok all l _ (pre ++ [o]) (by rw [he]; simp) (by simp [hl]) ?_
  intro i j hj
  rw [List.getD_eq_getElem?_getD, List.getElem?_append] at hj
  split at hj
  ·exact h i j (by rw [List.getD_eq_getElem?_getD]; exact hj)
  ·rename_i hlt
   by_cases e : i = acc.length
   ·subst e
    simp only [Nat.sub_self, List.getElem?_cons_zero, Option.getD_some] at hj
    have ho : all[acc.length]? = some o := by rw [he, hl]; simp
    have key : ∀ (ws : List Nat) (s : List Nat), (∀ x ∈ ws, x ∈ waits o) → (∀ x ∈ s, Pre all x acc.length) → ∀ x ∈ ws.foldl (fun s j => ins s (j :: (acc.getD j []))) s, Pre all x acc.length := by
     intro ws
     induction ws with
     | nil => intro s _ hs x hx; exact hs x hx
     | cons a ws ih =>
      intro s hw hs x hx
      simp only [List.foldl_cons] at hx
      refine ih _ (fun y hy => hw y (List.mem_cons_of_mem _ hy)) (fun y hy => ?_) x hx
      rcases mem_ins hy with hy | hy
      ·exact hs y hy
      ·rcases List.mem_cons.1 hy with rfl | hy
       ·exact .one ho (hw _ (List.mem_cons_self ..))
       ·exact .more ho (hw _ (List.mem_cons_self ..)) (h a y hy)
    exact key (waits o) [] (fun x hx => hx) (fun x hx => by cases hx) j hj
   ·rw [List.getElem?_eq_none (by simp; omega)] at hj
    simp at hj
def tAt (Ds : List Dt) (t0 : Tm) (L : Nat → Bool) : Nat → Tm
 | 0 => t0
 | k + 1 => match nthO Ds k, L k with
  | some x, true => upd (tAt Ds t0 L k) x.o.dst x.v
  | _, _ => tAt Ds t0 L k
def hAt (Ds : List Dt) (hp : Nat → Hp) (g : Nat) (L : Nat → Bool) : Nat → Option MO
 | 0 => getH (hp 0) g
 | k + 1 => match nthO Ds k, L k with
  | some x, true => match x.ds.contains g with
   | true => getH (hp (k + 1)) g
   | false => hAt Ds hp g L k
  | _, _ => hAt Ds hp g L k
section
variable {Ds : List Dt} {t0 : Tm} {hp : Nat → Hp}
theorem getT_upd (t : Tm) (d : Option Nat) (v : AV) (s : Nat) : getT (upd t d v) s = if d = some s then v else getT t s := by
 cases d with
 | none => rfl
 | some k =>
  show getT ((k, v) :: t) s = _
  rw [getT_cons]
  by_cases e : k = s <;> simp [e]
theorem tAt_agree {L L' : Nat → Bool} (s : Nat) : ∀ n, (∀ j x, j < n → nthO Ds j = some x → x.o.dst = some s → L j = L' j) → getT (tAt Ds t0 L n) s = getT (tAt Ds t0 L' n) s
 | 0, _ => rfl
 | n + 1, h => by
  have ih := tAt_agree s n (fun j x hj => h j x (by omega))
  unfold tAt
  cases hx : nthO Ds n with
  | none => simpa using ih
  | some x =>
   by_cases e : x.o.dst = some s
   ·rw [h n x (by omega) hx e]
    cases L' n
    ·exact ih
    ·simp only [getT_upd, if_pos e]
   ·cases L n <;> cases L' n <;> simp only [getT_upd, if_neg e] <;> exact ih
theorem tAt_cut {L : Nat → Bool} (s i : Nat) : ∀ n, i ≤ n → (∀ j x, j < n → nthO Ds j = some x → x.o.dst = some s → (L j = true ↔ j < i)) → getT (tAt Ds t0 L n) s = getT (tAt Ds t0 (fun _ => true) i) s
 | 0, hi, _ => by obtain rfl : i = 0 := by omega
                  rfl
 | n + 1, hi, h => by
  by_cases e : i = n + 1
  ·subst e
   exact tAt_agree s (n + 1) (fun j x hj hx hd => by simpa using (h j x hj hx hd).2 hj)
  ·have ih := tAt_cut s i n (by omega) (fun j x hj => h j x (by omega))
   rw [← ih]
   conv => lhs; unfold tAt
   cases hx : nthO Ds n with
   | none => rfl
   | some x =>
    cases hl : L n with
    | false => rfl
    | true =>
     have hne : x.o.dst ≠ some s := fun hd => by have := (h n x (by omega) hx hd).1 hl; omega
     simp only [getT_upd, if_neg hne]
theorem hAt_agree {L L' : Nat → Bool} (g : Nat) : ∀ n, (∀ j x, j < n → nthO Ds j = some x → x.ds.contains g = true → L j = L' j) → hAt Ds hp g L n = hAt Ds hp g L' n
 | 0, _ => rfl
 | n + 1, h => by
  have ih := hAt_agree g n (fun j x hj => h j x (by omega))
  unfold hAt
  cases hx : nthO Ds n with
  | none => simpa using ih
  | some x =>
   cases e : x.ds.contains g with
   | true =>
    rw [h n x (by omega) hx e]
    cases L' n
    ·exact ih
    ·simp only [e]
   | false => cases L n <;> cases L' n <;> simp only [e] <;> exact ih
theorem hAt_cut {L : Nat → Bool} (g i : Nat) (hS : ∀ j x, nthO Ds j = some x → x.ds.contains g = false → getH (hp (j + 1)) g = getH (hp j) g) (hlen : ∀ j, j < i → ∃ x, nthO Ds j = some x) : ∀ n, i ≤ n → (∀ j x, j < n → nthO Ds j = some x → x.ds.contains g = true → (L j = true ↔ j < i)) → hAt Ds hp g L n = getH (hp i) g
 | 0, hi, _ => by obtain rfl : i = 0 := by omega
                  rfl
 | n + 1, hi, h => by
  by_cases e : i = n + 1
  ·subst e
   obtain ⟨x, hx⟩ := hlen n (by omega)
   unfold hAt
   rw [hx]
   have ih := hAt_cut (L := L) g n hS (fun j hj => hlen j (by omega)) n (Nat.le_refl _) (fun j x hj hx hd => ⟨fun _ => hj, fun _ => (h j x (by omega) hx hd).2 (by omega)⟩)
   cases hd : x.ds.contains g with
   | true =>
    rw [(h n x (by omega) hx hd).2 (by omega)]
    simp only [hd]
   | false =>
    have := hS n x hx hd
    cases L n <;> simp only [hd] <;> rw [ih, this]
  ·have ih := hAt_cut (L := L) g i hS hlen n (by omega) (fun j x hj => h j x (by omega))
   rw [← ih]
   conv => lhs; unfold hAt
   cases hx : nthO Ds n with
   | none => rfl
   | some x =>
    cases hl : L n with
    | false => rfl
    | true =>
     have hne : x.ds.contains g = false := by
      cases hd : x.ds.contains g with
      | false => rfl
      | true => have := (h n x (by omega) hx hd).1 hl; omega
     simp only [hne]
end
theorem HR.congr {F : Fr} {r : Rho} {h h' : Hp} {w : World} (H : HR F r h w) (e : ∀ g, getH h' g = getH h g) : HR F r h' w := by
 have hM : Mut F.M0 r h' = Mut F.M0 r h := by
  funext b
  unfold Mut
  simp only [e]
 exact ⟨fun g => by rw [e]; exact H.dom g, fun g o V h1 h2 => by rw [hM]; exact H.objs g o V (by rw [← e]; exact h1) h2, fun g g' o o' V V' b h1 h2 => H.sep g g' o o' V V' b (by rw [← e]; exact h1) (by rw [← e]; exact h2), fun g o V b h1 => H.base g o V b (by rw [← e]; exact h1), H.os, H.tape, H.output, H.size, H.frame, H.m0, H.pin⟩
theorem Mut.congr {M0 : Cond} {r : Rho} {h h' : Hp} (e : ∀ g, getH h' g = getH h g) : Mut M0 r h' = Mut M0 r h := by
 funext b
 unfold Mut
 simp only [e]
structure DOk (P : Program) (F : Fr) (N : Nat) (all : Array Oper) (hp : Nat → Hp) (tc : Tm) (i : Nat) (x : Dt) : Prop where
 rd : ∀ s, x.rd.contains s = true → getT x.t s = getT tc s
 un : ∀ s, x.rd.contains s = false → getT x.t s = .any
 dst : ∀ s : Nat, x.o.dst = some s → s < N
 keep : ∀ g, x.ds.contains g = false → getH (hp (i + 1)) g = getH (hp i) g
 yes : x.sk = false → (x.o.guard = none ∨ ∃ j b oj sj, x.o.guard = some (j, b) ∧ nthO all.toList j = some oj ∧ oj.dst = some sj ∧ sj < N ∧ getT x.t sj = .val (.bool b)) ∧
  ∀ h1, (∀ g, x.ks.contains g = true → getH h1 g = getH (hp i) g) → ∃ h2, OpWp P F x.o x.t h1 x.v h2 ∧ (∀ g, x.ds.contains g = false → getH h2 g = getH h1 g) ∧ (∀ g, x.ds.contains g = true → getH h2 g = getH (hp (i + 1)) g)
 no : x.sk = true → x.v = .val undef ∧ x.ds = [] ∧ ∃ j b oj sj, x.o.guard = some (j, b) ∧ nthO all.toList j = some oj ∧ oj.dst = some sj ∧ sj < N ∧ (getT x.t sj = .val (.bool (!b)) ∨ ∃ u, getT x.t sj = .val (.tuple u))
section
variable {P : Program} {F : Fr} {N : Nat} {Q : Post} {k : List It} {all : Array Oper} {Ds : List Dt} {t0 : Tm} {hp : Nat → Hp}
def STL (F : Fr) (N : Nat) (Ds : List Dt) (t0 : Tm) (hp : Nat → Hp) (L : Nat → Bool) (a : Act) (w : World) : Prop :=
 ∃ r h, HR F r h w ∧ (∀ g, getH h g = hAt Ds hp g L Ds.length) ∧ TR w r (Mut F.M0 r h) (tAt Ds t0 L Ds.length) a ∧ a.tmps.size = N ∧ a.defers = []
theorem nthO_lt {α : Type} {l : List α} {i : Nat} {x : α} (h : nthO l i = some x) : i < l.length := by
 rw [nthO_eq] at h
 exact (List.getElem?_eq_some_iff.1 h).1
theorem nthO_some {α : Type} {l : List α} {i : Nat} (h : i < l.length) : ∃ x, nthO l i = some x := by
 rw [nthO_eq]
 exact ⟨l[i], List.getElem?_eq_getElem h⟩
theorem meets_of {a b : List Nat} {x : Nat} (h1 : a.contains x = true) (h2 : b.contains x = true) : meets a b = true := by
 unfold meets
 rw [List.any_eq_true]
 exact ⟨x, by simpa using h1, h2⟩
theorem meets_comm (a b : List Nat) : meets a b = meets b a := by
 rw [Bool.eq_iff_iff]
 unfold meets
 simp only [List.any_eq_true, List.contains_iff_mem]
 exact ⟨fun ⟨x, h1, h2⟩ => ⟨x, h2, h1⟩, fun ⟨x, h1, h2⟩ => ⟨x, h2, h1⟩⟩
structure Chk (all : List Oper) (Ds : List Dt) : Prop where
 low : ∀ i x j, nthO Ds i = some x → j ∈ waits x.o → j < i
 pair : ∀ i j x y, j < i → nthO Ds i = some x → nthO Ds j = some y → Pre all j i ∨ Pre all i j ∨ (meets (slotsOf x) y.o.dst.toList = false ∧ meets (slotsOf y) x.o.dst.toList = false ∧ meets x.ds y.ds = false ∧ meets x.ks y.ds = false ∧ meets y.ks x.ds = false)
theorem chk_of {all : List Oper} (hc : drawChk Ds (preds all []) = true) : Chk all Ds := by
 have hpr : ∀ i j : Nat, j ∈ (preds all []).getD i [] → Pre all j i := preds_ok all all [] [] rfl rfl (fun i j h => by simp at h)
 unfold drawChk at hc
 rw [List.all_eq_true] at hc
 have hi : ∀ i x, nthO Ds i = some x → ((waits x.o).all fun j => Nat.blt j i) = true ∧ ∀ j, j < i → ∀ y, nthO Ds j = some y → ((ordered (preds all []) i j) || (!meets (slotsOf x) y.o.dst.toList && !meets (slotsOf y) x.o.dst.toList && !meets x.ds y.ds && !meets x.ks y.ds && !meets y.ks x.ds)) = true := by
  intro i x hx
  have := hc i (List.mem_range.2 (nthO_lt hx))
  simp only [hx, Bool.and_eq_true, List.all_eq_true] at this
  refine ⟨by rw [List.all_eq_true]; exact this.1, fun j hj y hy => ?_⟩
  have h2 := this.2 j (List.mem_range.2 hj)
  simp only [hy] at h2
  exact h2
 refine ⟨fun i x j hx hj => ?_, fun i j x y hj hx hy => ?_⟩
 ·have := (hi i x hx).1
  rw [List.all_eq_true] at this
  exact blt_iff (this j hj)
 ·have := (hi i x hx).2 j hj y hy
  rw [Bool.or_eq_true] at this
  rcases this with h | h
  ·unfold ordered at h
   rw [Bool.or_eq_true] at h
   rcases h with h | h
   ·exact .inl (hpr i j (by simpa using h))
   ·exact .inr (.inl (hpr j i (by simpa using h)))
  ·simp only [Bool.and_eq_true, Bool.not_eq_true'] at h
   obtain ⟨⟨⟨⟨h1, h2⟩, h3⟩, h4⟩, h5⟩ := h
   exact .inr (.inr ⟨h1, h2, h3, h4, h5⟩)
theorem pre_low {all : List Oper} (hall : all = Ds.map (·.o)) (hc : Chk all Ds) : ∀ {j i : Nat}, Pre all j i → j < i := by
 have hx : ∀ {i : Nat} {o : Oper}, all[i]? = some o → ∃ x, nthO Ds i = some x ∧ x.o = o := by
  intro i o ho
  rw [hall, List.getElem?_map] at ho
  cases hd : Ds[i]? with
  | none => rw [hd] at ho; cases ho
  | some x => rw [hd] at ho; exact ⟨x, by rw [nthO_eq]; exact hd, Option.some.inj ho⟩
 intro j i h
 induction h with
 | one ho hj => obtain ⟨x, h1, rfl⟩ := hx ho; exact hc.low _ x _ h1 hj
 | more ho hj _ ih => obtain ⟨x, h1, rfl⟩ := hx ho; have := hc.low _ x _ h1 hj; omega
def Cl (all : List Oper) (L : Nat → Bool) : Prop := ∀ i o, all[i]? = some o → L i = true → ∀ j ∈ waits o, L j = true
theorem cl_pre {all : List Oper} {L : Nat → Bool} (hL : Cl all L) : ∀ {j i : Nat}, Pre all j i → L i = true → L j = true := by
 intro j i h
 induction h with
 | one ho hj => exact fun hi => hL _ _ ho hi _ hj
 | more ho hj _ ih => exact fun hi => ih (hL _ _ ho hi _ hj)
theorem draw_op {all : Array Oper} (hall : all.toList = Ds.map (·.o)) (hc : Chk all.toList Ds) (hok : ∀ i x, nthO Ds i = some x → DOk P F N all hp (tAt Ds t0 (fun _ => true) i) i x) {L L' : Nat → Bool} (hL : Cl all.toList L) {i : Nat} {x : Dt} (hx : nthO Ds i = some x) (hi : L i = false) (hw : ∀ j ∈ waits x.o, L j = true) (hL' : ∀ j, L' j = if j = i then true else L j)
  {a : Act} {w : World} (hs : STL F N Ds t0 hp L a w) {K : Act → World → Prop} (hK : ∀ a w, STL F N Ds t0 hp L' a w → K a w) : if Region.wanted x.o (yielded all a.tmps) then x.o.wp P a w K Q else K (a.put x.o.dst undef) w := by
 have hin := nthO_lt hx
 have hox : all.toList[i]? = some x.o := by rw [hall, List.getElem?_map, ← nthO_eq, hx]; rfl
 have hpl : ∀ {j i : Nat}, Pre all.toList j i → j < i := pre_low hall hc
 have hprei : ∀ {j : Nat}, Pre all.toList j i → L j = true := by
  intro j h
  cases h with
  | one ho hj => rw [hox] at ho; cases ho; exact hw _ hj
  | more ho hj hp => rw [hox] at ho; cases ho; exact cl_pre hL hp (hw _ hj)
 -- those in order with it
 have ord : ∀ {j : Nat} {y : Dt}, j ≠ i → nthO Ds j = some y → ¬ (meets (slotsOf x) y.o.dst.toList = false ∧ meets (slotsOf y) x.o.dst.toList = false ∧ meets x.ds y.ds = false ∧ meets x.ks y.ds = false ∧ meets y.ks x.ds = false) → (L j = true ↔ j < i) := by
  intro j y hne hy hno
  have h1 : Pre all.toList j i ∨ Pre all.toList i j := by
   rcases Nat.lt_or_gt_of_ne hne with hlt | hgt
   ·rcases hc.pair i j x y hlt hx hy with h | h | h
    ·exact .inl h
    ·exact .inr h
    ·exact (hno h).elim
   ·rcases hc.pair j i y x hgt hy hx with h | h | h
    ·exact .inr h
    ·exact .inl h
    ·exact (hno ⟨h.2.1, h.1, (meets_comm _ _).trans h.2.2.1, h.2.2.2.2, h.2.2.2.1⟩).elim
  rcases h1 with h1 | h1
  ·exact ⟨fun _ => hpl h1, fun _ => hprei h1⟩
  ·refine ⟨fun hj => ?_, fun hlt => ?_⟩
   ·have := cl_pre hL h1 hj; rw [hi] at this; cases this
   ·have := hpl h1; omega
 obtain ⟨r, h, hr, hh, ht, hn, hd⟩ := hs
 have D := hok i x hx
 have hTx : TR w r (Mut F.M0 r h) x.t a := by
  intro s
  cases hrs : x.rd.contains s with
  | false => rw [D.un s hrs]; unfold VR; trivial
  | true =>
   rw [D.rd s hrs, ← tAt_cut (L := L) s i Ds.length (by omega) (fun j y hj hy hdj => ?_)]
   ·exact ht s
   ·by_cases e : j = i
    ·subst e
     exact ⟨(fun h => by rw [hi] at h; cases h), fun h => by omega⟩
    ·refine ord e hy (fun hno => ?_)
     have : meets (slotsOf x) y.o.dst.toList = true := meets_of (x := s) (by unfold slotsOf; simp only [List.contains_iff_mem, List.mem_append] at hrs ⊢; exact .inl hrs) (by rw [hdj]; simp)
     rw [this] at hno
     cases hno.1
 have hLi : L' i = true := by rw [hL' i, if_pos rfl]
 have hLn : ∀ {j : Nat}, j ≠ i → L' j = L j := fun h => by rw [hL', if_neg h]
 -- the temporaries behind it
 have htm : ∀ (s : Nat), x.o.dst ≠ some s → getT (tAt Ds t0 L' Ds.length) s = getT (tAt Ds t0 L Ds.length) s := fun s hs => tAt_agree s _ (fun j y hj hy hdj => hLn (fun e => by subst e; rw [hx] at hy; cases hy; exact hs hdj))
 have htd : ∀ (s : Nat), x.o.dst = some s → getT (tAt Ds t0 L' Ds.length) s = x.v := by
  intro s hs
  rw [tAt_cut (L := L') s (i + 1) Ds.length (by omega) (fun j y hj hy hdj => ?_)]
  ·conv => lhs; unfold tAt
   simp only [hx, getT_upd, if_pos hs]
  ·by_cases e : j = i
   ·subst e; exact ⟨fun _ => by omega, fun _ => hLi⟩
   ·rw [hLn e, ord e hy (fun hno => ?_)]
    ·exact ⟨fun h => by omega, fun h => by omega⟩
    ·have : meets (slotsOf x) y.o.dst.toList = true := meets_of (x := s) (by unfold slotsOf; rw [hs]; simp) (by rw [hdj]; simp)
     rw [this] at hno
     cases hno.1
 have hput : ∀ {V : Value} {w' : World} {r' : Rho} {h' : Hp}, HR F r' h' w' → Evo F r h w r' h' w' → VR w' x.v r' (Mut F.M0 r' h') V → (∀ g, getH h' g = hAt Ds hp g L' Ds.length) → STL F N Ds t0 hp L' (a.put x.o.dst V) w' := by
  intro V w' r' h' h1 h2 h3 h4
  refine ⟨r', h', h1, h4, fun s => ?_, by rw [put_size, hn], by rw [put_defers, hd]⟩
  have hp2 := (ht.evo h2).put x.o.dst (fun s e => by rw [hn]; exact D.dst s e) h3 s
  rw [getT_upd] at hp2
  by_cases e : x.o.dst = some s
  ·rw [if_pos e] at hp2; rw [htd s e]; exact hp2
  ·rw [if_neg e] at hp2; rw [htm s e]; exact hp2
 have hobj : ∀ g, x.ds.contains g = false → hAt Ds hp g L' Ds.length = hAt Ds hp g L Ds.length := fun g hg => hAt_agree g _ (fun j y hj hy hdj => hLn (fun e => by subst e; rw [hx] at hy; cases hy; rw [hg] at hdj; cases hdj))
 cases hsk : x.sk with
 | true =>
  obtain ⟨hv, hds, j, b, oj, sj, e1, e2, e3, e4, e5⟩ := D.no hsk
  have hw0 : Region.wanted x.o (yielded all a.tmps) = false := by
   rw [nthO_eq] at e2
   have hj' : all[j]? = some oj := by rw [← Array.getElem?_toList]; exact e2
   have hlt : sj < a.tmps.size := by rw [hn]; exact e4
   have hval := hTx sj
   unfold Region.wanted
   rw [e1]
   rcases e5 with e5 | ⟨u, e5⟩
   ·rw [e5] at hval
    unfold VR at hval
    have : yielded all a.tmps j = some (!b) := by
     unfold yielded
     rw [Array.getD_eq_getD_getElem?, Array.getElem?_eq_getElem hlt] at hval
     simp at hval
     simp [hj', e3, Array.getElem?_eq_getElem hlt, hval]
    simp only [this]
    cases b <;> simp
   ·rw [e5] at hval
    unfold VR at hval
    have : yielded all a.tmps j = none := by
     unfold yielded
     rw [Array.getD_eq_getD_getElem?, Array.getElem?_eq_getElem hlt] at hval
     simp at hval
     simp [hj', e3, Array.getElem?_eq_getElem hlt, hval]
    simp [this]
  rw [hw0, if_neg (by simp)]
  exact hK _ _ (hput hr (.refl F r h w) (by rw [hv]; exact vr_val) (fun g => by rw [hh g, hobj g (by rw [hds]; rfl)]))
 | false =>
  obtain ⟨hg, hop⟩ := D.yes hsk
  have hw1 : Region.wanted x.o (yielded all a.tmps) = true := by
   unfold Region.wanted
   rcases hg with hg | ⟨j, b, oj, sj, e1, e2, e3, e4, e5⟩
   ·rw [hg]
   ·rw [nthO_eq] at e2
    have hj' : all[j]? = some oj := by rw [← Array.getElem?_toList]; exact e2
    have hlt : sj < a.tmps.size := by rw [hn]; exact e4
    have hval := hTx sj
    rw [e5] at hval
    unfold VR at hval
    have : yielded all a.tmps j = some b := by
     unfold yielded
     rw [Array.getD_eq_getD_getElem?, Array.getElem?_eq_getElem hlt] at hval
     simp at hval
     simp [hj', e3, Array.getElem?_eq_getElem hlt, hval]
    rw [e1]
    simp [this]
  rw [hw1, if_pos rfl]
  have hcut : ∀ g, (∀ j y, j ≠ i → nthO Ds j = some y → y.ds.contains g = true → ¬ (meets (slotsOf x) y.o.dst.toList = false ∧ meets (slotsOf y) x.o.dst.toList = false ∧ meets x.ds y.ds = false ∧ meets x.ks y.ds = false ∧ meets y.ks x.ds = false)) → hAt Ds hp g L Ds.length = getH (hp i) g ∧ hAt Ds hp g L' Ds.length = getH (hp (i + 1)) g := by
   intro g hg'
   refine ⟨hAt_cut g i (fun j y hy => (hok j y hy).keep g) (fun j hj => nthO_some (by omega)) _ (by omega) (fun j y hj hy hdj => ?_), hAt_cut g (i + 1) (fun j y hy => (hok j y hy).keep g) (fun j hj => nthO_some (by omega)) _ (by omega) (fun j y hj hy hdj => ?_)⟩
   ·by_cases e : j = i
    ·subst e; exact ⟨(fun h => by rw [hi] at h; cases h), fun h => by omega⟩
    ·exact ord e hy (hg' j y e hy hdj)
   ·by_cases e : j = i
    ·subst e; exact ⟨fun _ => by omega, fun _ => hLi⟩
    ·rw [hLn e, ord e hy (hg' j y e hy hdj)]
     exact ⟨fun h => by omega, fun h => by omega⟩
  obtain ⟨h2, ho, hk1, hk2⟩ := hop h (fun g hgk => by
   rw [hh g]
   exact (hcut g (fun j y _ _ hdj hno => by
    have : meets x.ks y.ds = true := meets_of hgk hdj
    rw [this] at hno
    cases hno.2.2.2.1)).1)
  refine ho r a w hr hTx K Q (fun V w' r' q1 q2 q3 => hK _ _ (hput q1 q2 q3 (fun g => ?_)))
  cases hgd : x.ds.contains g with
  | false => rw [hk1 g hgd, hh g, hobj g hgd]
  | true =>
   rw [hk2 g hgd]
   refine (hcut g (fun j y _ _ hdj hno => ?_)).2.symm
   have : meets x.ds y.ds = true := meets_of hgd hdj
   rw [this] at hno
   cases hno.2.2.1
theorem draw_all {all : Array Oper} (hall : all.toList = Ds.map (·.o)) (hc : Chk all.toList Ds) (hok : ∀ i x, nthO Ds i = some x → DOk P F N all hp (tAt Ds t0 (fun _ => true) i) i x) {R : Post} (hR : ∀ a w, ST F N (tAt Ds t0 (fun _ => true) Ds.length) (hp Ds.length) a w → R .normal a w) :
  ∀ (fuel : Nat) (listed : Array Bool) (a : Act) (w : World), listed.size = Ds.length → (listed.toList.filter (fun b => !b)).length ≤ fuel → Cl all.toList (fun j => listed.getD j false) → STL F N Ds t0 hp (fun j => listed.getD j false) a w → wpAny P .any all R fuel listed a w := by
 have hsz : all.size = Ds.length := by rw [← Array.length_toList, hall, List.length_map]
 have hox : ∀ {i : Nat} {o : Oper}, all[i]? = some o → ∃ x, nthO Ds i = some x ∧ x.o = o := by
  intro i o ho
  rw [← Array.getElem?_toList, hall, List.getElem?_map] at ho
  cases hd : Ds[i]? with
  | none => rw [hd] at ho; cases ho
  | some x => rw [hd] at ho; exact ⟨x, by rw [nthO_eq]; exact hd, Option.some.inj ho⟩
 have fin : ∀ (listed : Array Bool) (a : Act) (w : World), listed.size = Ds.length → (∀ j, j < Ds.length → listed.getD j false = true) → STL F N Ds t0 hp (fun j => listed.getD j false) a w → R .normal a w := by
  intro listed a w hls hall2 hs
  obtain ⟨r, h, hr, hh, ht, hn, hd⟩ := hs
  have e1 : ∀ g, getH (hp Ds.length) g = getH h g := fun g => by
   rw [hh g]
   exact (hAt_cut g Ds.length (fun j y hy => (hok j y hy).keep g) (fun j hj => nthO_some hj) _ (Nat.le_refl _) (fun j y hj _ _ => ⟨fun _ => hj, fun _ => hall2 j hj⟩)).symm
  refine hR a w ⟨r, hr.congr e1, fun s => ?_, hn, hd⟩
  rw [Mut.congr e1]
  have := ht s
  rwa [tAt_agree (L' := fun _ => true) s _ (fun j y hj _ _ => hall2 j hj)] at this
 have rdy : ∀ (listed : Array Bool), listed.size = Ds.length → Region.ready .any all listed = [] → ∀ j, j < Ds.length → listed.getD j false = true := by
  intro listed hls hr j
  induction j using Nat.strongRecOn with
  | _ j ih =>
   intro hj
   cases hl : listed.getD j false with
   | true => rfl
   | false =>
    exfalso
    have hj2 : j < all.size := by omega
    obtain ⟨x, hx, hxo⟩ := hox (i := j) (Array.getElem?_eq_getElem hj2)
    have : j ∈ Region.ready .any all listed := mem_ready.2 ⟨?_, x.o, by rw [hxo]; exact Array.getElem?_eq_getElem hj2, fun e he hb => ?_⟩
    ·rw [hr] at this; cases this
    ·rw [Array.getD_eq_getD_getElem?, Array.getElem?_eq_getElem (by omega)] at hl ⊢
     simpa using hl
    ·have hw : e.on ∈ waits x.o := by
      unfold waits
      rw [List.mem_map]
      exact ⟨e, List.mem_filter.2 ⟨by simpa using he, hb⟩, rfl⟩
     have hlow := hc.low j x _ hx hw
     exact ih e.on hlow (by omega)
 intro fuel
 induction fuel with
 | zero =>
  intro listed a w hls hf _ hs
  have hall2 : ∀ j, j < Ds.length → listed.getD j false = true := by
   intro j hj
   have h0 : listed.toList.filter (fun b => !b) = [] := List.eq_nil_of_length_eq_zero (by omega)
   rw [List.filter_eq_nil_iff] at h0
   have hjl : j < listed.size := by omega
   have := h0 listed[j] (by simp)
   rw [Array.getD_eq_getD_getElem?, Array.getElem?_eq_getElem hjl]
   simpa using this
  refine ⟨?_, fin listed a w hls hall2 hs⟩
  cases hr : Region.ready .any all listed with
  | nil => rfl
  | cons i l =>
   have := (mem_ready.1 (hr ▸ List.mem_cons_self .. : i ∈ Region.ready .any all listed))
   obtain ⟨h1, o, h2, _⟩ := this
   have hi : i < Ds.length := by rw [← hsz]; exact (Array.getElem?_eq_some_iff.1 h2).1
   have h3 := hall2 i hi
   rw [Array.getD_eq_getD_getElem?, Array.getElem?_eq_getElem (by omega)] at h1 h3
   simp at h1 h3
   rw [h1] at h3; cases h3
 | succ fuel ih =>
  intro listed a w hls hf hcl hs
  refine ⟨fun hr => fin listed a w hls (rdy listed hls hr) hs, fun i hi => ?_⟩
  obtain ⟨h1, o, h2, h3⟩ := mem_ready.1 hi
  obtain ⟨x, hx, rfl⟩ := hox h2
  have hin := nthO_lt hx
  have hlf : listed.getD i false = false := by
   rw [Array.getD_eq_getD_getElem?, Array.getElem?_eq_getElem (by omega)] at h1 ⊢
   simpa using h1
  have hset : ∀ j, (listed.setIfInBounds i true).getD j false = if j = i then true else listed.getD j false := by
   intro j
   by_cases e : j = i
   ·subst e
    have hjl : j < listed.size := by omega
    rw [if_pos rfl, Array.getD_eq_getD_getElem?, Array.getElem?_setIfInBounds]
    simp [hjl]
   ·rw [if_neg e, Array.getD_eq_getD_getElem?, Array.getElem?_setIfInBounds, if_neg (fun e' => e e'.symm), ← Array.getD_eq_getD_getElem?]
  have hw : ∀ j ∈ waits x.o, listed.getD j false = true := by
   intro j hj
   unfold waits at hj
   rw [List.mem_map] at hj
   obtain ⟨e, he, rfl⟩ := hj
   rw [List.mem_filter] at he
   exact h3 e (by simpa using he.1) he.2
  have hstep := draw_op (P := P) (Q := R) hall hc hok (L := fun j => listed.getD j false) (L' := fun j => (listed.setIfInBounds i true).getD j false) hcl hx hlf hw hset hs (K := wpAny P .any all R fuel (listed.setIfInBounds i true)) (fun a w hs' => ih _ a w (by simp [hls]) ?_ ?_ hs')
  ·unfold wpOp
   rw [h2]
   simp only
   split
   ·rename_i hwa; rw [if_pos hwa] at hstep; exact .inl hstep
   ·rename_i hwa; rw [if_neg hwa] at hstep; exact hstep
  ·have hcount : ((listed.setIfInBounds i true).toList.filter (fun b => !b)).length + 1 = (listed.toList.filter (fun b => !b)).length := by
    have hil : i < listed.toList.length := by simp; omega
    have hli : listed.toList[i] = false := by
     rw [Array.getD_eq_getD_getElem?, Array.getElem?_eq_getElem (by omega)] at hlf
     simpa using hlf
    have key : ∀ (l : List Bool) (i : Nat) (hi : i < l.length), l[i] = false → ((l.set i true).filter (fun b => !b)).length + 1 = (l.filter (fun b => !b)).length := by
     intro l
     induction l with
     | nil => intro i hi; simp at hi
     | cons b l ih =>
      intro i hi hb
      cases i with
      | zero => simp at hb; subst hb; simp
      | succ i =>
       have := ih i (by simpa using hi) (by simpa using hb)
       cases b <;> simp at this ⊢ <;> omega
    rw [Array.toList_setIfInBounds]
    exact key _ i hil hli
   omega
  ·intro j o ho hj k hk
   simp only [hset] at hj ⊢
   by_cases e : j = i
   ·subst e
    rw [Array.getElem?_toList, h2] at ho
    cases ho
    split
    ·rfl
    ·exact hw k hk
   ·rw [if_neg e] at hj
    split
    ·rfl
    ·exact hcl j o ho hj k hk
theorem good_draw {id : Nat} {all : Array Oper} (hm : P.follows .mixedOrders = true) (hall : all.toList = Ds.map (·.o)) (hc : drawChk Ds (preds all.toList []) = true) (hok : ∀ i x, nthO Ds i = some x → DOk P F N all hp (tAt Ds t0 (fun _ => true) i) i x) (H : Good P F N Q k (tAt Ds t0 (fun _ => true) Ds.length) (hp Ds.length)) : Good P F N Q (.code (.region id all true) :: k) t0 (hp 0) := fun a w hs => by
 obtain ⟨r, hr, ht, hn, hd⟩ := hs
 have hsz : all.size = Ds.length := by rw [← Array.length_toList, hall, List.length_map]
 refine wp_region_any hm (draw_all hall (chk_of hc) hok (R := QS P F N Q k) (fun a w h => H a w h) all.size _ a _ (by simp [hsz]) (by simp [hsz]) (fun i o _ hi => ?_) ?_)
 ·have hi2 : (Array.replicate all.size false).getD i false = true := hi
  rw [Array.getD_eq_getD_getElem?, Array.getElem?_replicate] at hi2
  split at hi2 <;> simp at hi2
 ·obtain ⟨h1, h2⟩ := hr.same (w' := { w with drawn := w.drawn + 1 }) ⟨rfl, rfl, rfl, Nat.le_refl _, fun _ _ => rfl⟩
  have hf : ∀ j, (Array.replicate all.size false).getD j false = false := fun j => by
   rw [Array.getD_eq_getD_getElem?, Array.getElem?_replicate]; split <;> rfl
  refine ⟨r, hp 0, h1, fun g => ?_, fun s => ?_, hn, hd⟩
  ·have h0 : ∀ n, hAt Ds hp g (fun j => (Array.replicate all.size false).getD j false) n = getH (hp 0) g := by
    intro n
    induction n with
    | zero => rfl
    | succ n ih => unfold hAt; rw [hf n]; cases nthO Ds n <;> exact ih
   exact (h0 _).symm
  ·have h0 : ∀ n, tAt Ds t0 (fun j => (Array.replicate all.size false).getD j false) n = t0 := by
    intro n
    induction n with
    | zero => rfl
    | succ n ih => unfold tAt; rw [hf n]; cases nthO Ds n <;> exact ih
   rw [h0]
   exact (ht.evo h2) s
end
end Go.Proofs.YthjldemjipnmdaaGreatDoor.Sx
namespace Go.Proofs.YthjldemjipnmdaaGreatDoor.Sx
open Go.RowKit
def keysA : AV → List Nat
 | .ptr g _ => [g]
 | .own g => [g]
 | .pown g _ _ _ => [g]
 | _ => []
def quietO : Op → Bool
 | .move _ => true
 | .assign _ => true
 | .nilCheck _ => true
 | .fieldAddr _ _ _ => true
 | _ => false
def idxO : Op → Bool
 | .indexAddr _ _ _ => true
 | _ => false
def keysB (i : Bool) (a : AV) : List Nat := match i, a with
 | true, .ptr _ _ => []
 | _, a => keysA a
def opKeys (d : Option Nat) (o : Op) (t : Tm) : List Nat := (match quietO o with
 | true => []
 | false => o.operands.toList.flatMap (fun x => keysB (idxO o) (ev t x))) ++ d.toList
section
variable {Tb : Tab} {d : Option Nat} {t : Tm} {h h' : Hp} {v : AV} {s : Option Prop}
def Loc (f : Hp → Out) (K : List Nat) : Prop := ∀ h v h' s, f h = some (v, h', s) → ∃ D : Hp, h' = D ++ h ∧ ∀ h2, (∀ g, K.contains g = true → getH h2 g = getH h g) → f h2 = some (v, D ++ h2, s)
theorem Loc.const {f : Hp → Out} {K : List Nat} (hf : ∀ h v h' s, f h = some (v, h', s) → h' = h ∧ ∀ h2, f h2 = some (v, h2, s)) : Loc f K := fun h v h' s e => by
 obtain ⟨rfl, h1⟩ := hf h v h' s e
 exact ⟨[], rfl, fun h2 _ => h1 h2⟩
theorem Loc.none (K : List Nat) : Loc (fun _ => Option.none) K := fun h v h' s e => by cases e
theorem Loc.some1 {K : List Nat} (x : AV) (s0 : Option Prop) : Loc (fun h => some (x, h, s0)) K := Loc.const fun h v h' s e => by
 obtain ⟨rfl, rfl, rfl⟩ := some3 e
 exact ⟨rfl, fun _ => rfl⟩
theorem Loc.part {K : List Nat} (z : Ty) (cs : AL) (off : Nat) (s0 : Option Prop) : Loc (fun h => axPart z cs off h s0) K := by
 simp only [axPart_eq]
 exact Loc.some1 _ _
theorem Loc.look {K : List Nat} (g : Nat) (hg : K.contains g = true) {F : Option MO → Hp → Out} (hF : ∀ o, Loc (F o) K) : Loc (fun h => F (getH h g) h) K := fun h v h' s e => by
 obtain ⟨D, h1, h2⟩ := hF _ h v h' s e
 exact ⟨D, h1, fun h3 hk => by show F (getH h3 g) h3 = _; rw [hk g hg]; exact h2 h3 hk⟩
theorem Loc.cons {K : List Nat} (x : AV) (D : Hp) (s0 : Option Prop) : Loc (fun h => some (x, D ++ h, s0)) K := fun h v h' s e => by
 obtain ⟨rfl, rfl, rfl⟩ := some3 e
 exact ⟨D, rfl, fun _ _ => rfl⟩
theorem key_of {o : Op} {x : Operand} {g : Nat} (hx : x ∈ o.operands.toList) (hg : (keysA (ev t x)).contains g = true) (hq : quietO o = false := by rfl) (hi : keysB (idxO o) (ev t x) = keysA (ev t x) := by first | rfl | (simp_all [keysB, idxO, keysA])) : (opKeys d o t).contains g = true := by
 unfold opKeys
 rw [hq]
 simp only [List.contains_iff_mem, List.mem_append, List.mem_flatMap] at *
 exact .inl ⟨x, hx, by rw [hi]; exact hg⟩
theorem key_dst {o : Op} {k : Nat} : (opKeys (some k) o t).contains k = true := by
 unfold opKeys
 simp
theorem loc_idxAddr (T : Nat) (x ix : Operand) : Loc (fun h => axIdxAddr Tb T x ix t h) (opKeys d (.indexAddr T x ix) t) := by
 unfold axIdxAddr
 cases lookT Tb T with
 | none => exact Loc.none _
 | some y =>
  simp only
  cases hi : ev t ix with
  | val u =>
   cases u with
   | int k i =>
    simp only
    cases y.kind with
    | slice e =>
     simp only
     cases lookT Tb e with
     | none => exact Loc.none _
     | some z =>
      simp only
      cases hx : ev t x with
      | im sz n els =>
       simp only
       cases Nat.beq z.size sz
       ·exact Loc.none _
       ·simp only [fcL_eq]; exact Loc.some1 _ _
      | own g =>
       refine Loc.look (F := fun o h => match o with | some (.row _ sz n _) => (match Nat.beq z.size sz with | true => some (.pown g sz i.toNat 0, h, some (0 ≤ i ∧ i < n)) | false => Option.none) | _ => Option.none) g (key_of (x := x) (by simp [Op.operands]) (by rw [hx]; simp [keysA])) (fun o => ?_)
       cases o with
       | none => exact Loc.none _
       | some o =>
        cases o with
        | row T' sz n els => simp only; cases Nat.beq z.size sz <;> first | exact Loc.none _ | exact Loc.some1 _ _
        | _ => exact Loc.none _
      | _ => exact Loc.none _
    | array n e =>
     simp only
     cases lookT Tb e with
     | none => exact Loc.none _
     | some z =>
      simp only
      cases ev t x with
      | ptr g j => exact Loc.some1 _ _
      | _ => exact Loc.none _
    | _ => exact Loc.none _
   | _ => exact Loc.none _
  | _ => exact Loc.none _
theorem loc_load (T : Nat) (x : Operand) : Loc (fun h => axLoad Tb T x t h) (opKeys d (.load T x) t) := by
 unfold axLoad
 cases lookT Tb T with
 | none => exact Loc.none _
 | some y =>
  simp only
  cases Nat.blt 0 y.size with
  | false => exact Loc.none _
  | true =>
   simp only
   cases hx : ev t x with
   | ptr g j =>
    refine Loc.look (F := fun o h => match o with | some (.box _ cs) => (match Nat.ble (j + y.size) cs.len with | true => axPart y cs j h Option.none | false => Option.none) | _ => Option.none) g (key_of (x := x) (by simp [Op.operands]) (by rw [hx]; simp [keysA])) (fun o => ?_)
    cases o with
    | none => exact Loc.none _
    | some o =>
     cases o with
     | box T' cs => simp only; cases Nat.ble (j + y.size) cs.len <;> first | exact Loc.none _ | exact Loc.part _ _ _ _
     | _ => exact Loc.none _
   | pown g sz i j =>
    refine Loc.look (F := fun o h => match o with | some (.row _ sz' n els) => (match Nat.beq sz' sz, Nat.ble (j + y.size) (els i).len with | true, true => axPart y (els i) j h (some (i < n)) | _, _ => Option.none) | _ => Option.none) g (key_of (x := x) (by simp [Op.operands]) (by rw [hx]; simp [keysA])) (fun o => ?_)
    cases o with
    | none => exact Loc.none _
    | some o =>
     cases o with
     | row T' sz' n els => simp only; cases Nat.beq sz' sz <;> cases Nat.ble (j + y.size) (els i).len <;> first | exact Loc.none _ | exact Loc.part _ _ _ _
     | _ => exact Loc.none _
   | pim cs =>
    simp only
    cases Nat.ble (0 + y.size) cs.len
    ·exact Loc.none _
    ·exact Loc.part _ _ _ _
   | _ => exact Loc.none _
theorem loc_store (T : Nat) (x u : Operand) : Loc (fun h => axStore Tb T x u t h) (opKeys d (.store T x u) t) := by
 unfold axStore
 cases lookT Tb T with
 | none => exact Loc.none _
 | some y =>
  simp only [fcA_eq]
  cases fitA (ev t u) with
  | false => exact Loc.none _
  | true =>
   cases Nat.beq (cellsA (ev t u)).len y.size with
   | false => exact Loc.none _
   | true =>
    simp only
    cases hx : ev t x with
    | ptr g j =>
     refine Loc.look (F := fun o h => match o with | some (.box T' cs) => (match Nat.ble (j + y.size) cs.len with | true => fcL (putL cs j (cellsA (ev t u))) fun l => some (.any, (g, .box T' l) :: h, Option.none) | false => Option.none) | _ => Option.none) g (key_of (x := x) (by simp [Op.operands]) (by rw [hx]; simp [keysA])) (fun o => ?_)
     cases o with
     | none => exact Loc.none _
     | some o =>
      cases o with
      | box T' cs => simp only [fcL_eq]; cases Nat.ble (j + y.size) cs.len <;> first | exact Loc.none _ | exact Loc.cons _ [(g, _)] _
      | _ => exact Loc.none _
    | pown g sz i j =>
     refine Loc.look (F := fun o h => match o with | some (.row T' sz' n els) => (match Nat.beq sz' sz, Nat.ble (j + y.size) sz, clA (ev t u) with | true, true, true => fcL (putL (els i) j (cellsA (ev t u))) fun l => some (.any, (g, .row T' sz n (fun k => if k = i then l else els k)) :: h, some (i < n)) | _, _, _ => Option.none) | _ => Option.none) g (key_of (x := x) (by simp [Op.operands]) (by rw [hx]; simp [keysA])) (fun o => ?_)
     cases o with
     | none => exact Loc.none _
     | some o =>
      cases o with
      | row T' sz' n els => simp only [fcL_eq]; cases Nat.beq sz' sz <;> cases Nat.ble (j + y.size) sz <;> cases clA (ev t u) <;> first | exact Loc.none _ | exact Loc.cons _ [(g, _)] _
      | _ => exact Loc.none _
    | _ => exact Loc.none _
theorem loc_read {K : List Nat} {u : AV} (hk : ∀ g, (keysA u).contains g = true → K.contains g = true) {f : Option (Nat × Nat × (Nat → AL)) → Hp → Out} (hf : ∀ o, Loc (f o) K) : Loc (fun h => f (readA h u) h) K := by
 cases u with
 | own g =>
  refine Loc.look (F := fun o h => f (match o with | some (.row _ sz n els) => some (sz, n, els) | _ => Option.none) h) g (hk g (by simp [keysA])) (fun o => ?_)
  exact hf _
 | _ => exact hf _
theorem loc_len (T : Nat) (x : Operand) (tys : Array Nat) : Loc (fun h => axLen Tb T x t h) (opKeys d (.call { callee := .builtin .len, args := #[x], argTypes := tys }) t) := by
 unfold axLen
 cases lookT Tb T with
 | none => exact Loc.none _
 | some y =>
  simp only
  cases y.kind with
  | string =>
   simp only
   cases ev t x with
   | val u => cases u with
    | string q => exact Loc.some1 _ _
    | _ => exact Loc.none _
   | _ => exact Loc.none _
  | slice e =>
   have gen : Loc (fun h => match readA h (ev t x) with | some (_, n, _) => some (.val (.int .i64 n), h, Option.none) | Option.none => Option.none) (opKeys d (.call { callee := .builtin .len, args := #[x], argTypes := tys }) t) := by
    refine loc_read (u := ev t x) (f := fun o h => match o with | some (_, n, _) => some (.val (.int .i64 n), h, Option.none) | Option.none => Option.none) (fun g hg => key_of (x := x) (by simp [Op.operands, Call.operands]) hg) (fun o => ?_)
    cases o with
    | none => exact Loc.none _
    | some p => exact Loc.some1 _ _
   simp only
   intro h v h' s e
   split at e
   ·rename_i hx
    obtain ⟨rfl, rfl, rfl⟩ := some3 e
    exact ⟨[], rfl, fun _ _ => rfl⟩
   ·exact gen h v h' s e
  | _ => exact Loc.none _
theorem loc_buildSlice (k T n : Nat) (parts : Array (Nat × Operand)) (o : Op) : Loc (fun h => axBuildSlice Tb k T n parts t h) (opKeys (some k) o t) := by
 unfold axBuildSlice
 cases lookT Tb T with
 | none => exact Loc.none _
 | some y =>
  simp only
  cases y.kind with
  | slice e =>
   simp only
   cases lookT Tb e with
   | none => exact Loc.none _
   | some z =>
    simp only
    cases rowA t z.size 0 parts.toList with
    | none => exact Loc.none _
    | some out =>
     simp only [fcLs_eq]
     refine Loc.look (F := fun q h => match allC out, (match q with | Option.none => true | some _ => false), Nat.blt 0 z.size, Nat.beq parts.size n, Nat.ble (n * z.size) 1000000 with | true, true, true, true, true => some (.own k, (k, .row e z.size n (elsOf out)) :: h, Option.none) | _, _, _, _, _ => Option.none) k key_dst (fun q => ?_)
     cases q <;> cases allC out <;> cases Nat.blt 0 z.size <;> cases Nat.beq parts.size n <;> cases Nat.ble (n * z.size) 1000000 <;> first | exact Loc.none _ | exact Loc.cons _ [(k, _)] _
  | _ => exact Loc.none _
theorem loc_makeSlice (k T : Nat) (x u : Operand) (o : Op) : Loc (fun h => axMakeSlice Tb k T x u t h) (opKeys (some k) o t) := by
 unfold axMakeSlice
 cases lookT Tb T with
 | none => exact Loc.none _
 | some y =>
  simp only
  cases y.kind with
  | slice e =>
   simp only
   cases lookT Tb e with
   | none => exact Loc.none _
   | some z =>
    simp only
    cases ev t x with
    | val a => cases a with
     | int k1 n =>
      cases ev t u with
      | val b => cases b with
       | int k2 m =>
        simp only
        refine Loc.look (F := fun q h => match (match q with | Option.none => true | some _ => false), Nat.ble z.bytes 1000000 with | true, true => some (.own k, (k, .row e z.size n.toNat (fun _ => valsL z.zero)) :: h, some (m = n ∧ 0 ≤ n ∧ n ≤ 1000000)) | _, _ => Option.none) k key_dst (fun q => ?_)
        cases q <;> cases Nat.ble z.bytes 1000000 <;> first | exact Loc.none _ | exact Loc.cons _ [(k, _)] _
       | _ => exact Loc.none _
      | _ => exact Loc.none _
     | _ => exact Loc.none _
    | _ => exact Loc.none _
  | _ => exact Loc.none _
theorem loc_append (k T T' : Nat) (x u : Operand) (tys : Array Nat) : Loc (fun h => axAppend Tb k T T' x u t h) (opKeys (some k) (.call { callee := .builtin .append, args := #[x, u], argTypes := tys }) t) := by
 have hxk : ∀ g, (keysA (ev t x)).contains g = true → (opKeys (some k) (.call { callee := .builtin .append, args := #[x, u], argTypes := tys }) t).contains g = true := fun g hg => key_of (x := x) (by simp [Op.operands, Call.operands]) hg
 have huk : ∀ g, (keysA (ev t u)).contains g = true → (opKeys (some k) (.call { callee := .builtin .append, args := #[x, u], argTypes := tys }) t).contains g = true := fun g hg => key_of (x := u) (by simp [Op.operands, Call.operands]) hg
 have hkk : (opKeys (some k) (.call { callee := .builtin .append, args := #[x, u], argTypes := tys }) t).contains k = true := key_dst
 generalize opKeys (some k) (.call { callee := .builtin .append, args := #[x, u], argTypes := tys }) t = K at *
 unfold axAppend
 cases Nat.beq T T' with
 | false => exact Loc.none _
 | true =>
  cases lookT Tb T with
  | none => exact Loc.none _
  | some y =>
   simp only
   cases y.kind with
   | slice e =>
    simp only
    cases lookT Tb e with
    | none => exact Loc.none _
    | some z =>
     refine loc_read (u := ev t u) (f := fun o h => match some z, o, freshH h k with
      | some z, some (sz2, m, els2), true => match Nat.beq z.size sz2, Nat.blt 0 z.size && Nat.ble z.bytes 1000000 && Nat.blt e 4294967295 with
       | true, true => match ev t x with
        | .own g => match getH h g with
         | some (.row e' sz n els) => match Nat.beq e' e, Nat.beq z.size sz with
          | true, true => some (.own k, (k, .row e sz (n + m) (catF n els els2)) :: (g, .dead) :: h, some (n + m ≤ 100000000))
          | _, _ => Option.none
         | _ => Option.none
        | .val (.slice Option.none 0 0) => some (.own k, (k, .row e z.size m els2) :: h, some (m ≤ 100000000))
        | _ => Option.none
       | _, _ => Option.none
      | _, _, _ => Option.none) huk (fun o => ?_)
     cases o with
     | none => exact Loc.none _
     | some p =>
      obtain ⟨sz2, m, els2⟩ := p
      refine Loc.look (F := fun q h => match some z, some (sz2, m, els2), (match q with | Option.none => true | some _ => false) with
      | some z, some (sz2, m, els2), true => match Nat.beq z.size sz2, Nat.blt 0 z.size && Nat.ble z.bytes 1000000 && Nat.blt e 4294967295 with
       | true, true => match ev t x with
        | .own g => match getH h g with
         | some (.row e' sz n els) => match Nat.beq e' e, Nat.beq z.size sz with
          | true, true => some (.own k, (k, .row e sz (n + m) (catF n els els2)) :: (g, .dead) :: h, some (n + m ≤ 100000000))
          | _, _ => Option.none
         | _ => Option.none
        | .val (.slice Option.none 0 0) => some (.own k, (k, .row e z.size m els2) :: h, some (m ≤ 100000000))
        | _ => Option.none
       | _, _ => Option.none
      | _, _, _ => Option.none) k hkk (fun q => ?_)
      cases q with
      | some _ => exact Loc.none _
      | none =>
       simp only
       cases Nat.beq z.size sz2 <;> cases (Nat.blt 0 z.size && Nat.ble z.bytes 1000000 && Nat.blt e 4294967295) <;> try exact Loc.none _
       simp only
       cases hx : ev t x with
       | own g =>
        refine Loc.look (F := fun q h => match q with
         | some (.row e' sz n els) => match Nat.beq e' e, Nat.beq z.size sz with
          | true, true => some (.own k, (k, .row e sz (n + m) (catF n els els2)) :: (g, .dead) :: h, some (n + m ≤ 100000000))
          | _, _ => Option.none
         | _ => Option.none) g (hxk g (by rw [hx]; simp [keysA])) (fun q => ?_)
        cases q with
        | none => exact Loc.none _
        | some o => cases o with
         | row e' sz n els => simp only; cases Nat.beq e' e <;> cases Nat.beq z.size sz <;> first | exact Loc.none _ | exact Loc.cons _ [(k, _), (g, _)] _
         | _ => exact Loc.none _
       | val v =>
        intro h v' h' s e
        split at e
        ·rename_i h0; cases h0
        ·obtain ⟨rfl, rfl, rfl⟩ := some3 e
         exact ⟨[(k, _)], rfl, fun _ _ => rfl⟩
        ·cases e
       | _ => exact Loc.none _
   | _ => exact Loc.none _
theorem loc_bin (op : BinOp) (T : Nat) (x y : Operand) (K : List Nat) : Loc (fun h => axBin Tb op T x y t h) K := Loc.const fun h v h' s e => by
 unfold axBin at *
 repeat' split at e <;> try (cases e; done)
 all_goals (obtain ⟨rfl, rfl, rfl⟩ := some3 e; simp_all)
theorem loc_field (T : Nat) (x : Operand) (i : Nat) (K : List Nat) : Loc (fun h => axField Tb T x i t h) K := Loc.const fun h v h' s e => by
 unfold axField at *
 simp only [axPart_eq] at e ⊢
 repeat' split at e <;> try (cases e; done)
 all_goals (obtain ⟨rfl, rfl, rfl⟩ := some3 e; simp_all)
theorem loc_addr (x : AV) (n : Nat) (K : List Nat) : Loc (fun h => axAddr x n h) K := Loc.const fun h v h' s e => by
 unfold axAddr at *
 simp only [fcL_eq] at e ⊢
 repeat' split at e <;> try (cases e; done)
 all_goals (obtain ⟨rfl, rfl, rfl⟩ := some3 e; simp_all)
theorem loc_fieldAddr (T : Nat) (x : Operand) (i : Nat) (K : List Nat) : Loc (fun h => axFieldAddr Tb T x i t h) K := by
 unfold axFieldAddr
 cases lookT Tb T with
 | none => exact Loc.none _
 | some y =>
  simp only
  cases y.kind with
  | struct fl =>
   simp only
   cases nthO fl i with
   | none => exact Loc.none _
   | some p =>
    obtain ⟨off, ft⟩ := p
    simp only
    cases lookT Tb ft with
    | none => exact Loc.none _
    | some z =>
     simp only
     cases Nat.blt 0 z.size
     ·exact Loc.none _
     ·exact loc_addr _ _ _
  | _ => exact Loc.none _
theorem loc_idx (T : Nat) (x ix : Operand) (K : List Nat) : Loc (fun h => axIdx Tb T x ix t h) K := Loc.const fun h v h' s e => by
 unfold axIdx at *
 simp only [fcK_eq, fcZ_eq] at e ⊢
 repeat' split at e <;> try (cases e; done)
 all_goals (obtain ⟨rfl, rfl, rfl⟩ := some3 e; simp_all)
theorem loc_build (T : Nat) (parts : Array (Nat × Operand)) (K : List Nat) : Loc (fun h => axBuild Tb T parts t h) K := Loc.const fun h v h' s e => by
 unfold axBuild at *
 simp only [fcL_eq, layC_eq] at e ⊢
 repeat' split at e <;> try (cases e; done)
 all_goals (obtain ⟨rfl, rfl, rfl⟩ := some3 e; simp_all)
theorem loc_conv (S T : Nat) (x : Operand) (K : List Nat) : Loc (fun h => axConv Tb S T x t h) K := Loc.const fun h v h' s e => by
 unfold axConv at *
 repeat' split at e <;> try (cases e; done)
 all_goals (obtain ⟨rfl, rfl, rfl⟩ := some3 e; simp_all)
theorem loc_slice (T : Nat) (x : Operand) (lo hi mx : Option Operand) (K : List Nat) : Loc (fun h => axSlice Tb T x lo hi mx t h) K := Loc.const fun h v h' s e => by
 unfold axSlice at *
 repeat' split at e <;> try (cases e; done)
 all_goals (obtain ⟨rfl, rfl, rfl⟩ := some3 e; simp_all)
theorem ax_loc (o : Op) : Loc (fun h => ax Tb d o t h) (opKeys d o t) := by
 have cst : ∀ (K : List Nat), (∀ h v h' s, ax Tb d o t h = some (v, h', s) → h' = h ∧ ∀ h2, ax Tb d o t h2 = some (v, h2, s)) → Loc (fun h => ax Tb d o t h) K := fun K hf => Loc.const hf
 cases o with
 | move x => unfold ax; simp only [fcA_eq]; exact Loc.some1 _ _
 | assign x => unfold ax; simp only [fcA_eq]; exact Loc.some1 _ _
 | indexAddr T x ix => exact loc_idxAddr T x ix
 | load T x => exact loc_load T x
 | field T x i => exact loc_field T x i _
 | fieldAddr T x i => exact loc_fieldAddr T x i _
 | index T x i => exact loc_idx T x i _
 | build T ps => exact loc_build T ps _
 | convert S T x => exact loc_conv S T x _
 | slice T x lo hi mx => exact loc_slice T x lo hi mx _
 | binOp op T x y T' => exact loc_bin op T x y _
 | store T x u => cases d with
  | none => exact loc_store T x u
  | some _ => exact Loc.none _
 | buildSlice T n ps => cases d with
  | none => exact Loc.none _
  | some k => exact loc_buildSlice k T n ps _
 | makeSlice T x u => cases d with
  | none => exact Loc.none _
  | some k => exact loc_makeSlice k T x u _
 | pick c x y =>
  refine cst _ (fun h v h' s e => ?_)
  unfold ax at *
  simp only [fcA_eq] at e ⊢
  repeat' split at e <;> try (cases e; done)
  all_goals (obtain ⟨rfl, rfl, rfl⟩ := some3 e; simp_all)
 | extract x i =>
  refine cst _ (fun h v h' s e => ?_)
  unfold ax at *
  simp only [fcA_eq] at e ⊢
  repeat' split at e <;> try (cases e; done)
  all_goals (obtain ⟨rfl, rfl, rfl⟩ := some3 e; simp_all)
 | unOp op T x =>
  refine cst _ (fun h v h' s e => ?_)
  unfold ax at *
  simp only at e ⊢
  repeat' split at e <;> try (cases e; done)
  all_goals (obtain ⟨rfl, rfl, rfl⟩ := some3 e; simp_all)
 | nilCheck x =>
  refine cst _ (fun h v h' s e => ?_)
  unfold ax at *
  simp only [fcA_eq] at e ⊢
  split at e <;> try (cases e; done)
  obtain ⟨rfl, rfl, rfl⟩ := some3 e
  simp
 | makeFunc fn first caps =>
  cases fn with
  | func f =>
   refine cst _ (fun h v h' s e => ?_)
   unfold ax at *
   simp only [fcL_eq] at e ⊢
   split at e <;> try (cases e; done)
   obtain ⟨rfl, rfl, rfl⟩ := some3 e
   simp
  | _ => exact Loc.none _
 | box T x => cases d with
  | none => exact Loc.none _
  | some k =>
   unfold ax
   simp only [fcA_eq, fcL_eq]
   refine Loc.look (F := fun q h => match fitA (ev t x), (match q with | Option.none => true | some _ => false) with | true, true => some (.ptr k 0, (k, .box T (cellsA (ev t x))) :: h, Option.none) | _, _ => Option.none) k key_dst (fun q => ?_)
   cases q <;> cases fitA (ev t x) <;> first | exact Loc.none _ | exact Loc.cons _ [(k, _)] _
 | alloc T => cases d with
  | none => exact Loc.none _
  | some k =>
   unfold ax
   simp only
   cases lookT Tb T with
   | none => exact Loc.none _
   | some y =>
    simp only [fcL_eq]
    refine Loc.look (F := fun q h => match (match q with | Option.none => true | some _ => false) with | true => some (.ptr k 0, (k, .box T (valsL y.zero)) :: h, Option.none) | false => Option.none) k key_dst (fun q => ?_)
    cases q <;> first | exact Loc.none _ | exact Loc.cons _ [(k, _)] _
 | call c =>
  obtain ⟨callee, args, tys⟩ := c
  cases callee with
  | builtin b =>
   unfold ax
   simp only
   unfold axCall
   intro h v h' s e
   simp only at e ⊢
   split at e <;> try (cases e; done)
   ·rename_i x T h1 h2
    rw [arr_of h1]
    obtain ⟨D, k1, k2⟩ := loc_len (d := d) T x tys h v h' s e
    refine ⟨D, k1, fun h3 hk => ?_⟩
    exact k2 h3 hk
   ·split at e <;> try (cases e; done)
    obtain ⟨rfl, rfl, rfl⟩ := some3 e
    exact ⟨[], rfl, fun _ _ => by simp_all⟩
   ·split at e <;> try (cases e; done)
    obtain ⟨rfl, rfl, rfl⟩ := some3 e
    exact ⟨[], rfl, fun _ _ => by simp_all⟩
   ·split at e <;> try (cases e; done)
    obtain ⟨rfl, rfl, rfl⟩ := some3 e
    exact ⟨[], rfl, fun _ _ => by simp_all⟩
   ·split at e <;> try (cases e; done)
    rename_i x y T T' h1 h2 _ k
    rw [arr_of h1]
    obtain ⟨D, k1, k2⟩ := loc_append k T T' x y tys h v h' s e
    exact ⟨D, k1, fun h3 hk => k2 h3 hk⟩
  | _ => exact Loc.none _
 | _ => exact Loc.none _
end
end Go.Proofs.YthjldemjipnmdaaGreatDoor.Sx
namespace Go.Proofs.YthjldemjipnmdaaGreatDoor.Sx
open Go.RowKit
def fcN {α : Sort _} : List Nat → (List Nat → α) → α
 | [], k => k []
 | x :: l, k => fcN l fun l => k (x :: l)
theorem fcN_eq {α : Sort _} : ∀ (l : List Nat) (k : List Nat → α), fcN l k = k l
 | [], _ => rfl
 | x :: l, k => by unfold fcN; rw [fcN_eq l]
def rdT {α : Sort _} (t : Tm) : List Nat → (Tm → α) → α
 | [], k => k []
 | s :: l, k => fcA (getT t s) fun v => rdT t l fun r => k ((s, v) :: r)
theorem rdT_eq {α : Sort _} (t : Tm) : ∀ (l : List Nat) (k : Tm → α), rdT t l k = k (l.map fun s => (s, getT t s))
 | [], _ => rfl
 | s :: l, k => by unfold rdT; rw [fcA_eq, rdT_eq t l]; rfl
theorem getT_rd (t : Tm) : ∀ (l : List Nat) (s : Nat), getT (l.map fun s => (s, getT t s)) s = if l.contains s = true then getT t s else .any
 | [], s => by simp [getT]
 | x :: l, s => by
  simp only [List.map_cons, getT_cons, getT_rd t l s, List.contains_cons]
  by_cases e : x = s
  ·subst e; simp
  ·have : (s == x) = false := by simpa using fun e' => e e'.symm
   rw [if_neg e, this, Bool.false_or]
def gsl (N : Nat) (all : List Oper) (o : Oper) : Option (Option (Nat × Bool)) := match o.guard with
 | none => some none
 | some (j, b) => match nthO all j with
  | some oj => match oj.dst with
   | some sj => match Nat.blt sj N with
    | true => some (some (sj, b))
    | false => none
   | none => none
  | none => none
def rdOf (o : Oper) (gd : Option (Nat × Bool)) : List Nat := match gd with
 | some (s, _) => s :: opSlots o.op.operands.toList
 | none => opSlots o.op.operands.toList
def gok (gd : Option (Nat × Bool)) (t : Tm) : Option Bool := match gd with
 | none => some true
 | some (s, b) => match getT t s with
  | .val (.bool b') => match b, b' with
   | true, true => some true
   | false, false => some true
   | _, _ => some false
  | .val (.tuple _) => some false
  | _ => none
def newKs (h' h : Hp) : List Nat := (h'.take (h'.length - h.length)).map (·.1)
abbrev DNxt := Option (Dt × Tm × Hp × Option Prop)
def dstep (Tb : Tab) (N : Nat) (all : List Oper) (o : Oper) (t : Tm) (h : Hp) : DNxt := match dok N o.dst with
 | false => none
 | true => match gsl N all o with
  | none => none
  | some gd => fcN (rdOf o gd) fun rd => rdT t rd fun tx => match gok gd tx with
   | none => none
   | some true => match ax Tb o.dst o.op tx h with
    | none => none
    | some (v, h', s) => fcN (opKeys o.dst o.op tx) fun ks => fcN (newKs h' h) fun ds => match o.dst with
     | some d => some (⟨o, rd, tx, v, false, ks, ds⟩, (d, v) :: t, h', s)
     | none => some (⟨o, rd, tx, v, false, ks, ds⟩, t, h', s)
   | some false => match o.dst with
    | some d => some (⟨o, rd, tx, .val undef, true, [], []⟩, (d, .val undef) :: t, h, none)
    | none => some (⟨o, rd, tx, .val undef, true, [], []⟩, t, h, none)
def dpre (N : Nat) (all : List Oper) (o : Oper) (t : Tm) : Option (List Nat × Tm) := match dok N o.dst with
 | false => none
 | true => match gsl N all o with
  | none => none
  | some gd => fcN (rdOf o gd) fun rd => rdT t rd fun tx => match gok gd tx with
   | some true => some (rd, tx)
   | _ => none
section
variable {P : Program} {F : Fr} {N : Nat} {Q : Post} {k : List It} {id : Nat} {all : Array Oper} {t0 t t' : Tm} {h0 h h' : Hp} {Tb : Tab} {Dr : List Dt} {l : List Oper} {o : Oper} {x : Dt} {s : Option Prop}
theorem tAt_app (Ds : List Dt) (x : Dt) (t0 : Tm) : ∀ i, i ≤ Ds.length → tAt (Ds ++ [x]) t0 (fun _ => true) i = tAt Ds t0 (fun _ => true) i
 | 0, _ => rfl
 | i + 1, h => by
  unfold tAt
  rw [tAt_app Ds x t0 i (by omega)]
  have : nthO (Ds ++ [x]) i = nthO Ds i := by rw [nthO_eq, nthO_eq, List.getElem?_append_left (by omega)]
  rw [this]
theorem tAt_last (Ds : List Dt) (x : Dt) (t0 : Tm) : tAt (Ds ++ [x]) t0 (fun _ => true) (Ds.length + 1) = upd (tAt Ds t0 (fun _ => true) Ds.length) x.o.dst x.v := by
 have : nthO (Ds ++ [x]) Ds.length = some x := by rw [nthO_eq]; simp
 conv => lhs; unfold tAt
 rw [tAt_app Ds x t0 _ (Nat.le_refl _), this]
def DG (P : Program) (F : Fr) (N : Nat) (Q : Post) (k : List It) (id : Nat) (all : Array Oper) (t0 : Tm) (h0 : Hp) (Dr : List Dt) (t : Tm) (h : Hp) (l : List Oper) : Prop :=
 ∀ hp : Nat → Hp, hp 0 = h0 → hp Dr.length = h → all.toList = Dr.reverse.map (·.o) ++ l → (∀ i x, nthO Dr.reverse i = some x → DOk P F N all hp (tAt Dr.reverse t0 (fun _ => true) i) i x) → (∀ s, getT t s = getT (tAt Dr.reverse t0 (fun _ => true) Dr.length) s) →
  Good P F N Q (.code (.region id all true) :: k) t0 h0
theorem dg_start (H : DG P F N Q k id all t0 h0 [] t0 h0 all.toList) : Good P F N Q (.code (.region id all true) :: k) t0 h0 :=
 H (fun _ => h0) rfl rfl rfl (fun i x e => by cases e) (fun _ => rfl)
structure DO1 (P : Program) (F : Fr) (N : Nat) (all : List Oper) (h h' : Hp) (t : Tm) (x : Dt) : Prop where
 rd : ∀ s, x.rd.contains s = true → getT x.t s = getT t s
 un : ∀ s, x.rd.contains s = false → getT x.t s = .any
 dst : ∀ s : Nat, x.o.dst = some s → s < N
 keep : ∀ g, x.ds.contains g = false → getH h' g = getH h g
 yes : x.sk = false → (x.o.guard = none ∨ ∃ j b oj sj, x.o.guard = some (j, b) ∧ nthO all j = some oj ∧ oj.dst = some sj ∧ sj < N ∧ getT x.t sj = .val (.bool b)) ∧
  ∀ h1, (∀ g, x.ks.contains g = true → getH h1 g = getH h g) → ∃ h2, OpWp P F x.o x.t h1 x.v h2 ∧ (∀ g, x.ds.contains g = false → getH h2 g = getH h1 g) ∧ (∀ g, x.ds.contains g = true → getH h2 g = getH h' g)
 no : x.sk = true → x.v = .val undef ∧ x.ds = [] ∧ ∃ j b oj sj, x.o.guard = some (j, b) ∧ nthO all j = some oj ∧ oj.dst = some sj ∧ sj < N ∧ (getT x.t sj = .val (.bool (!b)) ∨ ∃ u, getT x.t sj = .val (.tuple u))
theorem dg_push (ho : x.o = o) (D : DO1 P F N all.toList h h' t x) (ht : t' = upd t o.dst x.v) (H : DG P F N Q k id all t0 h0 (x :: Dr) t' h' l) : DG P F N Q k id all t0 h0 Dr t h (o :: l) := by
 intro hp e0 en ha hok hte
 subst ho
 have hrev : (x :: Dr).reverse = Dr.reverse ++ [x] := by simp
 have hlen : Dr.reverse.length = Dr.length := by simp
 refine H (fun i => if i ≤ Dr.length then hp i else h') (by simp [e0]) (if_neg (by simp)) (by rw [ha]; simp) ?_ ?_
 ·intro i y hy
  rw [hrev] at hy ⊢
  have hi : i < (Dr.reverse ++ [x]).length := nthO_lt hy
  simp only [List.length_append, hlen, List.length_cons, List.length_nil] at hi
  rw [tAt_app _ _ _ i (by omega)]
  by_cases e : i = Dr.length
  ·subst e
   have : y = x := by rw [nthO_eq, List.getElem?_append_right (by omega), hlen, Nat.sub_self] at hy; exact (Option.some.inj hy).symm
   subst this
   have k1 : (if Dr.length ≤ Dr.length then hp Dr.length else h') = h := by rw [if_pos (Nat.le_refl _)]; exact en
   have k2 : (if Dr.length + 1 ≤ Dr.length then hp (Dr.length + 1) else h') = h' := if_neg (by omega)
   refine ⟨fun s hs => by rw [D.rd s hs, hte s], D.un, D.dst, fun g hg => ?_, fun hs => ?_, D.no⟩
   ·show getH (if Dr.length + 1 ≤ Dr.length then hp (Dr.length + 1) else h') g = getH (if Dr.length ≤ Dr.length then hp Dr.length else h') g
    rw [k1, k2]; exact D.keep g hg
   ·refine ⟨(D.yes hs).1, fun h1 hk => ?_⟩
    obtain ⟨h2, q1, q2, q3⟩ := (D.yes hs).2 h1 (fun g hg => (hk g hg).trans (by show getH (if Dr.length ≤ Dr.length then hp Dr.length else h') g = _; rw [k1]))
    refine ⟨h2, q1, q2, fun g hg => ?_⟩
    show _ = getH (if Dr.length + 1 ≤ Dr.length then hp (Dr.length + 1) else h') g
    rw [k2]; exact q3 g hg
  ·have hy' : nthO Dr.reverse i = some y := by rw [nthO_eq, List.getElem?_append_left (by omega)] at hy; rw [nthO_eq]; exact hy
   have D2 := hok i y hy'
   have k1 : (if i ≤ Dr.length then hp i else h') = hp i := if_pos (by omega)
   have k2 : (if i + 1 ≤ Dr.length then hp (i + 1) else h') = hp (i + 1) := if_pos (by omega)
   refine ⟨D2.rd, D2.un, D2.dst, fun g hg => ?_, fun hs => ?_, D2.no⟩
   ·show getH (if i + 1 ≤ Dr.length then hp (i + 1) else h') g = getH (if i ≤ Dr.length then hp i else h') g
    rw [k1, k2]; exact D2.keep g hg
   ·refine ⟨(D2.yes hs).1, fun h1 hk => ?_⟩
    obtain ⟨h2, q1, q2, q3⟩ := (D2.yes hs).2 h1 (fun g hg => (hk g hg).trans (by show getH (if i ≤ Dr.length then hp i else h') g = _; rw [k1]))
    refine ⟨h2, q1, q2, fun g hg => ?_⟩
    show _ = getH (if i + 1 ≤ Dr.length then hp (i + 1) else h') g
    rw [k2]; exact q3 g hg
 ·intro s
  rw [hrev, List.length_cons]
  have := tAt_last Dr.reverse x t0
  rw [hlen] at this
  rw [this, ht, getT_upd, getT_upd, hte s]
theorem rd_ok (t : Tm) (rd : List Nat) : (∀ s, rd.contains s = true → getT (rd.map fun s => (s, getT t s)) s = getT t s) ∧ ∀ s, rd.contains s = false → getT (rd.map fun s => (s, getT t s)) s = .any :=
 ⟨fun s e => by rw [getT_rd, if_pos e], fun s e => by rw [getT_rd, if_neg (by rw [e]; decide)]⟩
theorem gsl_ok {all : List Oper} {gd : Option (Nat × Bool)} (e : gsl N all o = some gd) : (gd = none ∧ o.guard = none) ∨ ∃ j b oj sj, gd = some (sj, b) ∧ o.guard = some (j, b) ∧ nthO all j = some oj ∧ oj.dst = some sj ∧ sj < N := by
 unfold gsl at e
 split at e
 ·rename_i hg; cases e; exact .inl ⟨rfl, hg⟩
 ·rename_i j b hg
  split at e <;> try (cases e; done)
  rename_i oj hj
  split at e <;> try (cases e; done)
  rename_i sj hd
  split at e <;> try (cases e; done)
  rename_i hb
  cases e
  exact .inr ⟨j, b, oj, sj, rfl, hg, hj, hd, blt_iff hb⟩
theorem gok_yes {all : List Oper} {gd : Option (Nat × Bool)} (e : gsl N all o = some gd) {tx : Tm} (hy : gok gd tx = some true) : o.guard = none ∨ ∃ j b oj sj, o.guard = some (j, b) ∧ nthO all j = some oj ∧ oj.dst = some sj ∧ sj < N ∧ getT tx sj = .val (.bool b) := by
 rcases gsl_ok e with ⟨_, h⟩ | ⟨j, b, oj, sj, rfl, h1, h2, h3, h4⟩
 ·exact .inl h
 ·refine .inr ⟨j, b, oj, sj, h1, h2, h3, h4, ?_⟩
  unfold gok at hy
  simp only at hy
  split at hy
  ·rename_i b' hb
   split at hy
   ·exact hb
   ·exact hb
   ·cases hy
  ·cases hy
  ·cases hy
theorem gok_no {all : List Oper} {gd : Option (Nat × Bool)} (e : gsl N all o = some gd) {tx : Tm} (hy : gok gd tx = some false) : ∃ j b oj sj, o.guard = some (j, b) ∧ nthO all j = some oj ∧ oj.dst = some sj ∧ sj < N ∧ (getT tx sj = .val (.bool (!b)) ∨ ∃ u, getT tx sj = .val (.tuple u)) := by
 rcases gsl_ok e with ⟨rfl, h⟩ | ⟨j, b, oj, sj, rfl, h1, h2, h3, h4⟩
 ·unfold gok at hy; cases hy
 ·refine ⟨j, b, oj, sj, h1, h2, h3, h4, ?_⟩
  unfold gok at hy
  simp only at hy
  split at hy
  ·rename_i b' hb
   split at hy
   ·cases hy
   ·cases hy
   ·rename_i n1 n2
    refine .inl ?_
    rw [hb]
    cases b <;> cases b' <;> first | rfl | exact (n1 rfl rfl).elim | exact (n2 rfl rfl).elim
  ·rename_i u hu; exact .inr ⟨u, hu⟩
  ·cases hy
theorem getH_not (D h : Hp) (g : Nat) (e : (D.map (·.1)).contains g = false) : getH (D ++ h) g = getH h g := by
 induction D with
 | nil => rfl
 | cons p D ih =>
  obtain ⟨s, v⟩ := p
  simp only [List.map_cons, List.contains_cons, Bool.or_eq_false_iff] at e
  rw [List.cons_append, getH_cons, if_neg (fun e2 => by subst e2; simp at e), ih e.2]
theorem getH_in (D h h2 : Hp) (g : Nat) (e : (D.map (·.1)).contains g = true) : getH (D ++ h) g = getH (D ++ h2) g := by
 induction D with
 | nil => simp at e
 | cons p D ih =>
  obtain ⟨s, v⟩ := p
  rw [List.cons_append, List.cons_append, getH_cons, getH_cons]
  split
  ·rfl
  ·rename_i hne
   simp only [List.map_cons, List.contains_cons, Bool.or_eq_true] at e
   rcases e with e | e
   ·exact absurd (by simpa using e : g = s).symm hne
   ·exact ih e
theorem dg_op (hT : TabOk P Tb) (he : dstep Tb N all.toList o t h = some (x, t', h', s)) (hs : ∀ p, s = some p → p) (H : DG P F N Q k id all t0 h0 (x :: Dr) t' h' l) : DG P F N Q k id all t0 h0 Dr t h (o :: l) := by
 unfold dstep at he
 split at he <;> try (cases he; done)
 rename_i hd
 have hd' := dok_ok hd
 split at he <;> try (cases he; done)
 rename_i gd hg
 simp only [fcN_eq, rdT_eq] at he
 have hr := rd_ok t (rdOf o gd)
 generalize hrd : rdOf o gd = rd at *
 generalize htx : (rd.map fun s => (s, getT t s)) = tx at *
 split at he <;> try (cases he; done)
 ·rename_i hgk
  split at he <;> try (cases he; done)
  rename_i v h2 s2 ha
  have hs2 : s2 = s ∧ h2 = h' ∧ x = ⟨o, rd, tx, v, false, opKeys o.dst o.op tx, newKs h2 h⟩ ∧ t' = upd t o.dst v := by
   split at he
   ·rename_i e; cases he; refine ⟨rfl, rfl, rfl, ?_⟩; rw [e]; rfl
   ·rename_i e; cases he; refine ⟨rfl, rfl, rfl, ?_⟩; rw [e]; rfl
  obtain ⟨rfl, rfl, rfl, ht'⟩ := hs2
  obtain ⟨D, hD, hloc⟩ := ax_loc (Tb := Tb) (d := o.dst) (t := tx) o.op h v h2 s2 ha
  have hnk : newKs h2 h = D.map (·.1) := by
   unfold newKs
   rw [hD, List.length_append, Nat.add_sub_cancel, List.take_left]
  refine dg_push (x := ⟨o, rd, tx, v, false, opKeys o.dst o.op tx, newKs h2 h⟩) rfl ⟨hr.1, hr.2, hd', fun g hg2 => ?_, fun _ => ⟨gok_yes hg hgk, fun h1 hk => ?_⟩, fun e => by cases e⟩ ht' H
  ·rw [hnk] at hg2
   rw [hD]
   exact getH_not D h g hg2
  ·have h3 := hloc h1 hk
   refine ⟨D ++ h1, ax_ok hT o.op h3 hs, fun g hg2 => ?_, fun g hg2 => ?_⟩
   ·rw [hnk] at hg2
    exact getH_not D h1 g hg2
   ·rw [hnk] at hg2
    rw [hD]
    exact getH_in D h1 h g hg2
 ·rename_i hgk
  have hs2 : s = none ∧ h' = h ∧ x = ⟨o, rd, tx, .val undef, true, [], []⟩ ∧ t' = upd t o.dst (.val undef) := by
   split at he
   ·rename_i e; cases he; refine ⟨rfl, rfl, rfl, ?_⟩; rw [e]; rfl
   ·rename_i e; cases he; refine ⟨rfl, rfl, rfl, ?_⟩; rw [e]; rfl
  obtain ⟨rfl, rfl, rfl, ht'⟩ := hs2
  exact dg_push (x := ⟨o, rd, tx, .val undef, true, [], []⟩) rfl ⟨hr.1, hr.2, hd', fun _ _ => rfl, (fun e => by cases e), fun _ => ⟨rfl, rfl, gok_no hg hgk⟩⟩ ht' H
theorem dg0 (hT : TabOk P Tb) (he : dstep Tb N all.toList o t h = some (x, t', h', none)) (H : DG P F N Q k id all t0 h0 (x :: Dr) t' h' l) : DG P F N Q k id all t0 h0 Dr t h (o :: l) := dg_op hT he (fun p e => by cases e) H
theorem dpre_ok {rd : List Nat} {tx : Tm} (he : dpre N all.toList o t = some (rd, tx)) : (∀ s : Nat, o.dst = some s → s < N) ∧ (∀ s, rd.contains s = true → getT tx s = getT t s) ∧ (∀ s, rd.contains s = false → getT tx s = .any) ∧ (o.guard = none ∨ ∃ j b oj sj, o.guard = some (j, b) ∧ nthO all.toList j = some oj ∧ oj.dst = some sj ∧ sj < N ∧ getT tx sj = .val (.bool b)) := by
 unfold dpre at he
 split at he <;> try (cases he; done)
 rename_i hd
 split at he <;> try (cases he; done)
 rename_i gd hg
 simp only [fcN_eq, rdT_eq] at he
 split at he <;> try (cases he; done)
 rename_i hgk
 cases he
 exact ⟨dok_ok hd, (rd_ok t _).1, (rd_ok t _).2, gok_yes hg hgk⟩
theorem dg_by {rd : List Nat} {tx : Tm} {v : AV} (hp : dpre N all.toList o t = some (rd, tx)) (hw : ∀ h, OpWp P F o tx h v h) (hN : updK N t o.dst v = some t') (H : DG P F N Q k id all t0 h0 (⟨o, rd, tx, v, false, [], []⟩ :: Dr) t' h l) : DG P F N Q k id all t0 h0 Dr t h (o :: l) := by
 obtain ⟨h1, h2, h3, h4⟩ := dpre_ok hp
 exact dg_push (x := ⟨o, rd, tx, v, false, [], []⟩) rfl ⟨h2, h3, h1, fun _ _ => rfl, fun _ => ⟨h4, fun h5 _ => ⟨h5, hw h5, (fun _ _ => rfl), (fun _ e => by cases e)⟩⟩, (fun e => by cases e)⟩ (updK_ok hN).2 H
theorem dg_call {rd : List Nat} {tx : Tm} {c : Call} {y : Operand} {f : Nat} {args : AL} {res : AV} (hp : dpre N all.toList o t = some (rd, tx)) (ho : o.op = .call c) (hc : c.callee = .value y) (ha : argsA tx y c.args.toList = some (f, args)) (hcl : clL args = true) (hE : Ent P f) (A : AC P f args res) (hN : updK N t o.dst res = some t') (H : DG P F N Q k id all t0 h0 (⟨o, rd, tx, res, false, [], []⟩ :: Dr) t' h l) : DG P F N Q k id all t0 h0 Dr t h (o :: l) :=
 dg_by hp (fun _ => call_wp ho hc ha hcl hE A) hN H
def dsl (all : List Oper) : List Oper → Option Nat
 | o :: _ => match o.guard with
  | some (j, _) => match nthO all j with
   | some oj => oj.dst
   | none => none
  | none => none
 | [] => none
theorem dg_set {b b' : Bool} (n : Nat) (hb : getT t n = .val (.bool b)) (e : b = b') (H : DG P F N Q k id all t0 h0 Dr ((n, .val (.bool b')) :: t) h l) : DG P F N Q k id all t0 h0 Dr t h l := by
 subst e
 intro hp e0 en ha hok hte
 refine H hp e0 en ha hok fun s => ?_
 rw [getT_cons, ← hte s]
 split
 ·rename_i e2; rw [← e2, hb]
 ·rfl
theorem dT {p : Prop} [Decidable p] {n : Nat} (_hn : dsl all.toList l = some n) (hb : getT t n = .val (.bool (decide p))) (e : p) (H : DG P F N Q k id all t0 h0 Dr ((n, .val (.bool true)) :: t) h l) : DG P F N Q k id all t0 h0 Dr t h l := dg_set n hb (decide_eq_true e) H
theorem dF {p : Prop} [Decidable p] {n : Nat} (_hn : dsl all.toList l = some n) (hb : getT t n = .val (.bool (decide p))) (e : ¬ p) (H : DG P F N Q k id all t0 h0 Dr ((n, .val (.bool false)) :: t) h l) : DG P F N Q k id all t0 h0 Dr t h l := dg_set n hb (decide_eq_false e) H
theorem dNT {p : Prop} [Decidable p] {n : Nat} (_hn : dsl all.toList l = some n) (hb : getT t n = .val (.bool (!decide p))) (e : p) (H : DG P F N Q k id all t0 h0 Dr ((n, .val (.bool false)) :: t) h l) : DG P F N Q k id all t0 h0 Dr t h l := dg_set n hb (by rw [decide_eq_true e]; rfl) H
theorem dNF {p : Prop} [Decidable p] {n : Nat} (_hn : dsl all.toList l = some n) (hb : getT t n = .val (.bool (!decide p))) (e : ¬ p) (H : DG P F N Q k id all t0 h0 Dr ((n, .val (.bool true)) :: t) h l) : DG P F N Q k id all t0 h0 Dr t h l := dg_set n hb (by rw [decide_eq_false e]; rfl) H
theorem good_tm (e : ∀ s, getT t s = getT t' s) (H : Good P F N Q k t h) : Good P F N Q k t' h := by
 intro a w hs
 obtain ⟨r, hr, ht, hn, hd⟩ := hs
 exact H a w ⟨r, hr, fun s => by rw [e s]; exact ht s, hn, hd⟩
theorem dg_end (hm : P.follows .mixedOrders = true) (hc : drawChk Dr.reverse (preds all.toList []) = true) (H : Good P F N Q k t h) : DG P F N Q k id all t0 h0 Dr t h [] := by
 intro hp e0 en ha hok hte
 subst e0 en
 rw [List.append_nil] at ha
 have hl : Dr.reverse.length = Dr.length := by simp
 refine good_draw hm ha hc hok ?_
 rw [hl]
 exact good_tm hte H
end
end Go.Proofs.YthjldemjipnmdaaGreatDoor.Sx
namespace Go.Proofs.YthjldemjipnmdaaGreatDoor.Sx
open Go.RowKit
theorem mixed : Tryz.prog.follows .mixedOrders = true := rfl
def SubTm (t : Tm) : Tm → Prop
 | [] => True
 | (s, v) :: l => Sub (getT t s) v ∧ SubTm t l
def SubHp (h : Hp) : Hp → Prop
 | [] => True
 | (g, o') :: l => (∃ o, getH h g = some o ∧ SubO o o') ∧ SubHp h l
theorem SubTm.get {t : Tm} : ∀ {t' : Tm}, SubTm t t' → ∀ s, Sub (getT t s) (getT t' s)
 | [], _, s => Sub.any _
 | (s', v) :: l, h, s => by
  rw [getT_cons]
  split
  ·rename_i e; subst e; exact h.1
  ·exact SubTm.get h.2 s
theorem SubHp.get {h : Hp} : ∀ {h' : Hp}, SubHp h h' → ∀ g o', getH h' g = some o' → ∃ o, getH h g = some o ∧ SubO o o'
 | [], _, g, o', e => by cases e
 | (g', o1) :: l, hh, g, o', e => by
  rw [getH_cons] at e
  split at e
  ·rename_i e2; subst e2; cases e; exact hh.1
  ·exact SubHp.get hh.2 g o' e
section
variable {P : Program} {F : Fr} {N : Nat} {Q : Post} {k : List It} {t t' : Tm} {h h' : Hp}
def sideP : Option Prop → Prop
 | none => True
 | some p => p
theorem sideN : sideP none := trivial
theorem sideT {p : Prop} (h : p) : sideP (some p) := h
theorem stp {Tb : Tab} {k' : List It} {s : Option Prop} (hT : TabOk P Tb) (he : step Tb N k t h = some (k', t', h', s)) (hs : sideP s) (H : Good P F N Q k' t' h') : Good P F N Q k t h := step_ok hT he (fun p e => by subst e; exact hs) H
theorem dgp {Tb : Tab} {id : Nat} {all : Array Oper} {t0 : Tm} {h0 : Hp} {Dr : List Dt} {l : List Oper} {o : Oper} {x : Dt} {s : Option Prop} (hT : TabOk P Tb) (he : dstep Tb N all.toList o t h = some (x, t', h', s)) (hs : sideP s) (H : DG P F N Q k id all t0 h0 (x :: Dr) t' h' l) : DG P F N Q k id all t0 h0 Dr t h (o :: l) := dg_op hT he (fun p e => by subst e; exact hs) H
theorem Wk.mk (h1 : SubTm t t') (h2 : SubHp h h') (hc : rfT h' t' = true) (hc2 : rfH h' h' = true) (hp : ∀ g V, F.R0 g = some V → freshH h' g = false) : Wk F N t h t' h' := Wk.of h1.get h2.get hc hc2 hp
theorem pin0 (hX : (F.X = fun _ => False) ∧ F.R0 = r0) : ∀ g V, F.R0 g = some V → freshH h' g = false := fun g V e => by rw [hX.2] at e; cases e
theorem pin1 {g : Nat} {V : Value} {X : Nat → Prop} (hX : F.X = X ∧ F.R0 = updR r0 g V) (hg : freshH h' g = false) : ∀ g V, F.R0 g = some V → freshH h' g = false := fun g' V' e => by
 rw [hX.2] at e
 unfold updR at e
 split at e
 ·rename_i e2; subst e2; exact hg
 ·cases e
theorem SubO.box {T : Nat} {cs cs' : AL} (hs : SubL cs cs') : SubO (.box T cs) (.box T cs') := ⟨rfl, hs⟩
theorem SubO.row {T sz n n' : Nat} {els els' : Nat → AL} (hn : n = n') (hs : ∀ i, i < n → els i = els' i) : SubO (.row T sz n els) (.row T sz n' els') := ⟨rfl, rfl, hn, hs⟩
theorem good_rounds {c : Code} {α : Type} (T : α → Tm) (H0 : α → Hp) (m : α → Nat) (I : α → Prop) (a : α) (hI : I a) (hw : Wk F N t h (T a) (H0 a)) (H : ∀ a, I a → Good P F N Q (.code c :: .inv (fun t' h' => ∃ b, I b ∧ m b < m a ∧ t' = T b ∧ h' = H0 b) :: k) (T a) (H0 a)) : Good P F N Q (.code (.loop c) :: k) t h := by
 refine good_loop (t' := T a) (h' := H0 a) (fun n t h => ∃ b, I b ∧ m b = n ∧ t = T b ∧ h = H0 b) (m a) ⟨a, hI, rfl, rfl, rfl⟩ hw ?_
 rintro n t1 h1 ⟨b, hb, rfl, rfl, rfl⟩
 have := H b hb
 have e : (fun t' h' => ∃ m', m' < m b ∧ ∃ b', I b' ∧ m b' = m' ∧ t' = T b' ∧ h' = H0 b') = (fun t' h' => ∃ b', I b' ∧ m b' < m b ∧ t' = T b' ∧ h' = H0 b') := by
  funext t' h'
  refine propext ⟨?_, ?_⟩
  ·rintro ⟨_, h1, b', h2, rfl, h3⟩; exact ⟨b', h2, h1, h3⟩
  ·rintro ⟨b', h2, h1, h3⟩; exact ⟨_, h1, b', h2, rfl, h3⟩
 rw [e]
 exact this
theorem good_again {α : Type} {T : α → Tm} {H0 : α → Hp} {m : α → Nat} {I : α → Prop} {n : Nat} (b : α) (hb : I b) (hm : m b < n) (hw : Wk F N t h (T b) (H0 b)) : Good P F N Q (.inv (fun t' h' => ∃ b, I b ∧ m b < n ∧ t' = T b ∧ h' = H0 b) :: k) t h :=
 good_inv (t' := T b) (h' := H0 b) ⟨b, hb, hm, rfl, rfl⟩ hw
end
def imOf {α : Type} (sz : Nat) (f : α → AL) (z : α) (l : List α) : AV := .im sz l.length fun i => f (l.getD i z)
theorem imOf_nil {α : Type} {sz : Nat} {f : α → AL} {z : α} : Sub (.val (.slice none 0 0)) (imOf sz f z []) := Sub.nilIm
end Go.Proofs.YthjldemjipnmdaaGreatDoor.Sx
namespace Go.Proofs.YthjldemjipnmdaaGreatDoor.Sx
open Go.RowKit
def OC (P : Program) (f : FuncId) (args : AL) (T sz n : Nat) (els : Nat → AL) : Prop := ∀ (w : World) (M : Cond) (Vs : List Value), MOk w M → VRL w args false r0 M Vs →
 Calls P f Vs.toArray w (fun e w' => ∃ V, e = .returned V ∧ (∀ b, blk V = some b → w.heap.size ≤ b) ∧ (∃ a n c, V = .slice a n c) ∧ RO w' r0 (fun k => M k ∨ blk V = some k) V (.row T sz n els) ∧ Below w.heap.size w w')
def retO (P : Program) (F : Fr) (fn : Func) (T sz n : Nat) (els : Nat → AL) : Post := bodyPost P fn (fun e w' => ∃ V, e = .returned V ∧ (∀ b, blk V = some b → F.w0.heap.size ≤ b) ∧ (∃ a n c, V = .slice a n c) ∧ RO w' r0 (fun k => F.M0 k ∨ blk V = some k) V (.row T sz n els) ∧ Below F.w0.heap.size F.w0 w')
section
variable {P : Program} {F : Fr} {N : Nat} {Q : Post} {k k' : List It} {t t' : Tm} {h h' : Hp} {Tb : Tab}
theorem OC.enter {f : FuncId} {fn : Func} {c : Code} {args : AL} {T sz n : Nat} {els : Nat → AL} {t0 : Tm} (hf : P.funcs[f]? = some fn) (hN : fn.ntmps = N) (hb : fn.body = some c) (hl : Nat.ble args.len N = true) (ht0 : argK 0 args some = some t0)
  (H : ∀ F : Fr, ((F.X = fun _ => False) ∧ F.R0 = r0) → Good P F N (retO P F fn T sz n els) [.code c] t0 []) : OC P f args T sz n els := by
 rw [argK_eq] at ht0
 obtain rfl := Option.some.inj ht0
 have hl := Nat.le_of_ble_eq_true hl
 intro w M Vs hM hv
 have hlen := hv.length
 refine calls_of_wp hf hb ?_
 refine H ⟨w, fun _ => False, M, r0⟩ ⟨rfl, rfl⟩ _ w ⟨r0, ?_, ?_, ?_, rfl⟩
 ·exact ⟨(fun g => rfl), (fun g o V h1 => by cases h1), (fun g g' o o' V V' b h1 => by cases h1), (fun g o V b h1 => by cases h1), rfl, rfl, rfl, Nat.le_refl _, (fun k _ _ => rfl), ⟨fun b hb => ⟨hM.1 b hb, fun h => h⟩, hM.2, fun _ h => h.elim⟩, (fun _ _ e => by cases e)⟩
 ·have hmono : ∀ s, VR w (getT (argT 0 args) s) r0 M (if 0 ≤ s then (Vs[s - 0]?).getD undef else undef) := TR_args args Vs 0 hv
  intro s
  have hs := hmono s
  rw [if_pos (Nat.zero_le _), Nat.sub_zero] at hs
  have e : ((Vs.toArray ++ Array.replicate (fn.ntmps - Vs.toArray.size) undef).getD s undef) = (Vs[s]?).getD undef := by
   rw [Array.getD_eq_getD_getElem?, Array.getElem?_append]
   split
   ·simp
   ·rename_i hlt
    rw [List.getElem?_eq_none (by simpa using hlt)]
    rw [Array.getElem?_replicate]
    split <;> rfl
  show VR w (getT (argT 0 args) s) r0 (Mut M r0 []) _
  rw [e]
  refine VR.mono (Nat.le_refl _) (fun k _ hm => ⟨rfl, ?_⟩) _ (fun _ _ h => h) hs
  rintro (hm' | ⟨g, o, V, h1, _⟩)
  ·exact hm hm'
  ·cases h1
 ·simp; omega
theorem retO_core (hT : TabOk P Tb) {fn : Func} {T sz n : Nat} {els els' : Nat → AL} {g : Nat} (hX : (F.X = fun _ => False) ∧ F.R0 = r0) (hl : resL Tb t h fn.results.toList = some (.cons (.own g) .nil)) (hg : getH h g = some (.row T sz n els)) (he : ∀ i, i < n → els i = els' i) {a : Act} {w : World} (hst : ST F N t h a w) : retO P F fn T sz n els' .ret a w := by
 obtain ⟨r, hr, ht, hn, hd⟩ := hst
 obtain ⟨V, h1, h2⟩ := results_ok hT hr ht hl
 have h2' : VR w (.own g) r (Mut F.M0 r h) V := h2
 unfold VR at h2'
 obtain ⟨hV, _⟩ := h2'
 obtain ⟨xs, ho, hel⟩ := hr.objs g _ V hg hV
 have hM : ∀ k, ¬ Mut F.M0 r h k → ¬ (F.M0 k ∨ blk V = some k) := by
  rintro k hk (h3 | h3)
  ·exact hk (.inl h3)
  ·exact hk (.inr ⟨g, _, V, hg, rfl, hV, h3⟩)
 refine ⟨hd, V, h1, V, rfl, fun b hb => ?_, ho.slice, ⟨xs, ho, fun i hi => ?_⟩, hr.os, hr.tape, hr.output, hr.size, fun k hk => hr.frame k hk (by rw [hX.1]; exact fun h => h)⟩
 ·rcases hr.base g _ V b hg rfl hV hb with h3 | h3
  ·exact h3
  ·rw [hX.1] at h3; exact h3.elim
 ·obtain ⟨Us, a1, a2, a3⟩ := hel i hi
  rw [he i hi] at a3
  exact ⟨Us, a1, a2, VRL.mono (Nat.le_refl _) (fun k _ hk => ⟨rfl, hM k hk⟩) _ (fun _ _ h => h) a3⟩
theorem retO_nil (hT : TabOk P Tb) {fn : Func} {T sz : Nat} {els' : Nat → AL} (hX : (F.X = fun _ => False) ∧ F.R0 = r0) (hl : resL Tb t h fn.results.toList = some (.cons (.val (.slice none 0 0)) .nil)) {a : Act} {w : World} (hst : ST F N t h a w) : retO P F fn T sz 0 els' .ret a w := by
 obtain ⟨r, hr, ht, hn, hd⟩ := hst
 obtain ⟨V, h1, h2⟩ := results_ok hT hr ht hl
 have h2' : VR w (.val (.slice none 0 0)) r (Mut F.M0 r h) V := h2
 unfold VR at h2'
 subst h2'
 exact ⟨hd, _, h1, _, rfl, (fun b hb => by cases hb), ⟨_, _, _, rfl⟩, ⟨[], rowOk_nil w T sz, fun i hi => by omega⟩, hr.os, hr.tape, hr.output, hr.size, fun k hk => hr.frame k hk (by rw [hX.1]; exact fun h => h)⟩
theorem good_retO (hT : TabOk P Tb) {fn : Func} {T sz n n' : Nat} {els els' : Nat → AL} {g : Nat} (hX : (F.X = fun _ => False) ∧ F.R0 = r0) (hl : resL Tb t h fn.results.toList = some (.cons (.own g) .nil)) (hg : getH h g = some (.row T sz n els)) (hn : n = n') (he : ∀ i, i < n → els i = els' i) : Good P F N (retO P F fn T sz n' els') (.code .ret :: k) t h := fun _ _ hst => by
 subst hn
 exact wp_ret (QS_ret k (retO_core hT hX hl hg he hst))
theorem good_retOn (hT : TabOk P Tb) {fn : Func} {T sz : Nat} {els' : Nat → AL} (hX : (F.X = fun _ => False) ∧ F.R0 = r0) (hl : resL Tb t h fn.results.toList = some (.cons (.val (.slice none 0 0)) .nil)) : Good P F N (retO P F fn T sz 0 els') (.code .ret :: k) t h := fun _ _ hst =>
 wp_ret (QS_ret k (retO_nil hT hX hl hst))
theorem call_wpO {o : Oper} {c : Call} {x : Operand} {f s T sz n : Nat} {els : Nat → AL} {args : AL} (hd : o.dst = some s) (ho : o.op = .call c) (hc : c.callee = .value x) (ha : argsA t x c.args.toList = some (f, args)) (hcl : clL args = true) (hE : Ent P f) (A : OC P f args T sz n els) (hs : freshH h s = true) : OpWp P F o t h (.own s) ((s, .row T sz n els) :: h) := by
 intro r a w hr ht next Q hn
 obtain ⟨caps, e, hv⟩ := args_ok ht ha
 have hrun : (execOp a.eval o).run P w = .ok (.enter f ((c.args.map a.eval) ++ caps)) w := by
  have := hE (c.args.map a.eval ++ caps) w
  simp [execOp, ho, resolve, hc, e, Deferred.ofValue, invoke, this]
 unfold Oper.wp
 rw [hrun, Oper.upon_enter]
 have e2 : (c.args.map a.eval ++ caps) = (c.args.toList.map a.eval ++ caps.toList).toArray := by
  apply Array.ext'
  simp
 rw [e2]
 have _ := hd
 refine (A w (Mut F.M0 r h) _ hr.mok (VRL.closed _ hcl hv)).mono ?_
 rintro _ w' ⟨V, rfl, hV, hsl, ⟨xs, h1, h2⟩, hb⟩
 obtain ⟨g1, g2⟩ := hr.new hb (fresh_ok hs) hV (o := .row T sz n els) (fun E => ⟨xs, h1, fun i hi => by
  obtain ⟨Us, a1, a2, a3⟩ := h2 i hi
  refine ⟨Us, a1, a2, VRL.mono (Nat.le_refl _) (fun k _ hk => ⟨rfl, ?_⟩) _ (fun _ _ h => h) a3⟩
  rintro (hm | ⟨g', o', V', b1, b2, b3, b4⟩)
  ·exact hk (.inl (.inl hm))
  ·rw [getH_cons] at b1
   unfold updR at b3
   by_cases e3 : s = g'
   ·rw [if_pos e3.symm] at b3
    exact hk (.inr (Option.some.inj b3 ▸ b4))
   ·rw [if_neg e3] at b1
    rw [if_neg (fun e => e3 e.symm)] at b3
    exact hk (.inl (.inr ⟨g', o', V', b1, b2, b3, b4⟩))⟩)
 refine hn V w' _ g1 g2 ?_
 unfold VR
 exact ⟨by unfold updR; rw [if_pos rfl], .inl hsl⟩
theorem good_callO {all : Array Oper} {o : Oper} {l : List Oper} {c : Call} {x : Operand} {f s T sz n : Nat} {els : Nat → AL} {args : AL} (hg : o.guard = none) (hd : o.dst = some s) (ho : o.op = .call c) (hc : c.callee = .value x) (ha : argsA t x c.args.toList = some (f, args)) (hcl : clL args = true) (hE : Ent P f) (A : OC P f args T sz n els) (hs : freshH h s = true) (hN : updK N t o.dst (.own s) = some t')
  (H : Good P F N Q (.ops all l :: k) t' ((s, .row T sz n els) :: h)) : Good P F N Q (.ops all (o :: l) :: k) t h := good_op hg (call_wpO hd ho hc ha hcl hE A hs) (updK_ok hN).1 ((updK_ok hN).2 ▸ H)
theorem dg_callO {id : Nat} {all : Array Oper} {t0 : Tm} {h0 : Hp} {Dr : List Dt} {l : List Oper} {o : Oper} {rd : List Nat} {tx : Tm} {c : Call} {y : Operand} {f s T sz n : Nat} {els : Nat → AL} {args : AL} (hp : dpre N all.toList o t = some (rd, tx)) (hd : o.dst = some s) (ho : o.op = .call c) (hc : c.callee = .value y) (ha : argsA tx y c.args.toList = some (f, args)) (hcl : clL args = true) (hE : Ent P f) (A : OC P f args T sz n els) (hs : freshH h s = true) (hN : updK N t o.dst (.own s) = some t')
  (H : DG P F N Q k id all t0 h0 (⟨o, rd, tx, .own s, false, [s], [s]⟩ :: Dr) t' ((s, .row T sz n els) :: h) l) : DG P F N Q k id all t0 h0 Dr t h (o :: l) := by
 obtain ⟨h1, h2, h3, h4⟩ := dpre_ok hp
 refine dg_push (x := ⟨o, rd, tx, .own s, false, [s], [s]⟩) rfl ⟨h2, h3, h1, fun g' e => ?_, fun _ => ⟨h4, fun h5 hk => ⟨(s, .row T sz n els) :: h5, call_wpO hd ho hc ha hcl hE A ?_, fun g' e => ?_, fun g' e => ?_⟩⟩, fun e => by cases e⟩ (updK_ok hN).2 H
 ·rw [getH_cons, if_neg (fun e2 => by subst e2; simp at e)]
 ·have := hk s (by simp)
  unfold freshH at hs ⊢
  rw [this]; exact hs
 ·rw [getH_cons, if_neg (fun e2 => by subst e2; simp at e)]
 ·have : g' = s := by simpa using e
  subst this
  rw [getH_cons, getH_cons, if_pos rfl, if_pos rfl]
theorem good_two {all : Array Oper} {o : Oper} {l : List Oper} {s : Nat} {R : Bool → Prop} (hg : o.guard = none) (hd : o.dst = some s) (hN : Nat.blt s N = true) (H0 : ∀ (r : Rho) (a : Act) (w : World), HR F r h w → TR w r (Mut F.M0 r h) t a → ∃ b : Bool, R b ∧ (execOp a.eval o).run P w = .ok (.value (.bool b)) w)
  (H : ∀ b, R b → Good P F N Q (.ops all l :: k) ((s, .val (.bool b)) :: t) h) : Good P F N Q (.ops all (o :: l) :: k) t h := fun a w hs => by
 obtain ⟨r, hr, ht, hn, hd2⟩ := hs
 obtain ⟨b, hb, hrun⟩ := H0 r a w hr ht
 show wpList P all (QS P F N Q k) (o :: l) a w
 refine wpList_plain hg (fun K hK => ?_)
 unfold Oper.wp
 rw [hrun]
 refine hK _ _ (H b hb _ _ ⟨r, hr, ?_, ?_, ?_⟩)
 ·have := ht.put (v := .val (.bool b)) (V := .bool b) o.dst (fun s' e => by rw [hn]; rw [hd] at e; cases e; exact blt_iff hN) (by unfold VR; rfl)
  rw [hd] at this
  rw [hd]
  exact this
 ·rw [put_size]; exact hn
 ·rw [put_defers]; exact hd2
theorem good_eqNil {all : Array Oper} {o : Oper} {l : List Oper} {s T T' e sz n c1 c2 : Nat} {els : Nat → AL} {x : Operand} {y : Ty} (hT : TabOk P Tb) (hg : o.guard = none) (hd : o.dst = some s) (ho : o.op = .binOp .eql T x (.const (.slice none c1 c2)) T') (hN : Nat.blt s N = true) (hx : ev t x = .im sz n els) (hy : lookT Tb T = some y) (hk : y.kind = .slice e)
  (H1 : n = 0 → Good P F N Q (.ops all l :: k) ((s, .val (.bool true)) :: t) h) (H2 : Good P F N Q (.ops all l :: k) ((s, .val (.bool false)) :: t) h) : Good P F N Q (.ops all (o :: l) :: k) t h := by
 refine good_two (R := fun b => b = true → n = 0) hg hd hN (fun r a w hr ht => ?_) (fun b hb => ?_)
 ·have hv := VR_ev ht x
  rw [hx] at hv
  unfold VR at hv
  have hu := (hT _ _ hy).slice hk
  have hrun : ∀ (A : Option Addr) (m c : Nat), a.eval x = .slice A m c → (execOp a.eval o).run P w = .ok (.value (.bool A.isNone)) w := by
   intro A m c hA
   have := Lib.run_eql_slice_nil (P := P) w T e A m c c1 c2 hu
   have hgd : (eqGuard .eql T x (.const (.slice none c1 c2)) (.slice A m c) (.slice none c1 c2)).run P w = .ok () w := by
    unfold eqGuard
    simp
   have hc : a.eval (.const (.slice none c1 c2)) = .slice none c1 c2 := rfl
   simp [execOp, ho, hA, hc, this, hgd]
  rcases hv with ⟨rfl, e1⟩ | ⟨b, off, cap, e1, _⟩
  ·exact ⟨true, fun _ => rfl, hrun _ _ _ e1⟩
  ·exact ⟨false, (fun e => by cases e), hrun _ _ _ e1⟩
 ·cases b with
  | true => exact H1 (hb rfl)
  | false => exact H2
end
end Go.Proofs.YthjldemjipnmdaaGreatDoor.Sx
namespace Go.Proofs.YthjldemjipnmdaaGreatDoor.Sx
open Go.RowKit
mutual
def pimA (h : Hp) : AV → AV
 | .ptr g j => match Nat.beq j 0, getH h g with
  | true, some (.box _ cs) => match clL cs with
   | true => .pim cs
   | false => .ptr g j
  | _, _ => .ptr g j
 | .agg cs => .agg (pimL h cs)
 | .tup cs => .tup (pimL h cs)
 | .fn f cs => .fn f (pimL h cs)
 | x => x
def pimL (h : Hp) : AL → AL
 | .nil => .nil
 | .cons x l => .cons (pimA h x) (pimL h l)
end
mutual
def scA : AV → Bool
 | .val _ => true
 | .agg cs => scL cs
 | .tup cs => scL cs
 | _ => false
def scL : AL → Bool
 | .nil => true
 | .cons x l => scA x && scL l
end
section
variable {w : World} {r r' : Rho} {M M' : Cond}
mutual
theorem sc_ok : ∀ (x : AV) {V : Value}, scA x = true → VR w x r M V → VR w x r' M' V
 | .val _, _, _, hv => by unfold VR at *; exact hv
 | .agg cs, _, hc, hv => by unfold VR at *; obtain ⟨a, e, hv⟩ := hv; exact ⟨a, e, scL_ok cs (by simpa [scA] using hc) hv⟩
 | .tup cs, _, hc, hv => by unfold VR at *; obtain ⟨a, e, hv⟩ := hv; exact ⟨a, e, scL_ok cs (by simpa [scA] using hc) hv⟩
 | .any, _, hc, _ => by cases hc
 | .ptr _ _, _, hc, _ => by cases hc
 | .own _, _, hc, _ => by cases hc
 | .pown _ _ _ _, _, hc, _ => by cases hc
 | .im _ _ _, _, hc, _ => by cases hc
 | .pim _, _, hc, _ => by cases hc
 | .fn _ _, _, hc, _ => by cases hc
theorem scL_ok : ∀ (l : AL) {one : Bool} {Us : List Value}, scL l = true → VRL w l one r M Us → VRL w l one r' M' Us
 | .nil, _, [], _, _ => by unfold VRL; trivial
 | .nil, _, _ :: _, _, hv => by unfold VRL at hv; exact hv.elim
 | .cons _ _, _, [], _, hv => by unfold VRL at hv; exact hv.elim
 | .cons x l, _, _ :: _, hc, hv => by
  simp only [scL, Bool.and_eq_true] at hc
  unfold VRL at *
  exact ⟨hv.1, sc_ok x hc.1 hv.2.1, scL_ok l hc.2 hv.2.2⟩
end
end
section
variable {P : Program} {F : Fr} {h : Hp} {r : Rho} {w : World}
theorem pim_box (hr : HR F r h w) {g : Nat} {T : Nat} {cs : AL} {V : Value} (hg : getH h g = some (.box T cs)) (hc : clL cs = true) (hv : VR w (.ptr g 0) r (Mut F.M0 r h) V) : VR w (.pim cs) r (fun _ => False) V := by
 unfold VR at hv
 obtain ⟨b, h1, rfl⟩ := hv
 obtain ⟨b', c, e, k1, k2⟩ := hr.objs g _ _ hg h1
 cases e
 unfold VR
 refine ⟨b, 0, rfl, (Array.getElem?_eq_some_iff.1 k1).1, fun h => h, c.toList, fun j U hj => ?_, VRL.closed _ hc (VRL.mono (Nat.le_refl _) (fun _ _ _ => ⟨rfl, fun h => h⟩) _ (fun _ _ h => h) k2)⟩
 rw [cell_of_row w b _ c T (0, 0) k1, Nat.zero_add]
 simpa using hj
mutual
theorem pim_ok (hr : HR F r h w) : ∀ (x : AV) {V : Value}, VR w x r (Mut F.M0 r h) V → VR w (pimA h x) r (fun _ => False) V
 | .ptr g j, V, hv => by
  unfold pimA
  split
  ·rename_i T cs hj hg
   split
   ·rename_i hc
    obtain rfl := Nat.eq_of_beq_eq_true hj
    exact pim_box hr hg hc hv
   ·unfold VR at *; exact hv
  ·unfold VR at *; exact hv
 | .agg cs, _, hv => by unfold pimA; unfold VR at *; obtain ⟨a, e, hv⟩ := hv; exact ⟨a, e, pimL_ok hr cs hv⟩
 | .tup cs, _, hv => by unfold pimA; unfold VR at *; obtain ⟨a, e, hv⟩ := hv; exact ⟨a, e, pimL_ok hr cs hv⟩
 | .fn _ cs, _, hv => by unfold pimA; unfold VR at *; obtain ⟨a, e, hv⟩ := hv; exact ⟨a, e, pimL_ok hr cs hv⟩
 | .any, _, _ => by unfold pimA VR; trivial
 | .val _, _, hv => by unfold pimA; unfold VR at *; exact hv
 | .own _, _, hv => by unfold pimA; unfold VR at *; exact hv
 | .pown _ _ _ _, _, hv => by unfold pimA; unfold VR at *; exact hv
 | .im _ _ _, _, hv => by unfold pimA; exact VR.mono (Nat.le_refl _) (fun _ _ _ => ⟨rfl, fun h => h⟩) _ (fun _ _ h => h) hv
 | .pim _, _, hv => by unfold pimA; exact VR.mono (Nat.le_refl _) (fun _ _ _ => ⟨rfl, fun h => h⟩) _ (fun _ _ h => h) hv
theorem pimL_ok (hr : HR F r h w) : ∀ (l : AL) {one : Bool} {Us : List Value}, VRL w l one r (Mut F.M0 r h) Us → VRL w (pimL h l) one r (fun _ => False) Us
 | .nil, _, [], _ => by have _ := hr; unfold pimL VRL; trivial
 | .nil, _, _ :: _, hv => by unfold VRL at hv; exact hv.elim
 | .cons _ _, _, [], hv => by unfold VRL at hv; exact hv.elim
 | .cons x l, _, _ :: _, hv => by
  unfold pimL
  unfold VRL at *
  exact ⟨hv.1, pim_ok hr x hv.2.1, pimL_ok hr l hv.2.2⟩
end
end
def argsP (t : Tm) (h : Hp) (x : Operand) (args : List Operand) : Option (Nat × AL) := match argsA t x args with
 | some (f, l) => dcL (pimL h l) fun l => some (f, l)
 | none => none
section
variable {P : Program} {F : Fr} {N : Nat} {Q : Post} {k k' : List It} {t t' : Tm} {h h' : Hp} {Tb : Tab}
theorem call_wpP {o : Oper} {c : Call} {x : Operand} {f : Nat} {args : AL} {res : AV} (ho : o.op = .call c) (hc : c.callee = .value x) (ha : argsP t h x c.args.toList = some (f, args)) (hcl : clL args = true) (hE : Ent P f) (A : AC P f args res) (hsc : scA res = true) : OpWp P F o t h res h := by
 intro r a w hr ht next Q hn
 unfold argsP at ha
 split at ha <;> try (cases ha; done)
 rename_i f' l hl
 rw [dcL_eq] at ha
 cases ha
 obtain ⟨caps, e, hv⟩ := args_ok ht hl
 have hrun : (execOp a.eval o).run P w = .ok (.enter f ((c.args.map a.eval) ++ caps)) w := by
  have := hE (c.args.map a.eval ++ caps) w
  simp [execOp, ho, resolve, hc, e, Deferred.ofValue, invoke, this]
 unfold Oper.wp
 rw [hrun, Oper.upon_enter]
 have e2 : (c.args.map a.eval ++ caps) = (c.args.toList.map a.eval ++ caps.toList).toArray := by
  apply Array.ext'
  simp
 rw [e2]
 refine (A w (fun _ => False) _ ⟨fun b hb => hb.elim, hr.gl⟩ (VRL.closed _ hcl (pimL_ok hr _ hv))).mono ?_
 rintro _ w' ⟨V, rfl, hV, hb⟩
 obtain ⟨h1, h2⟩ := hr.same hb
 exact hn V w' r h1 h2 (sc_ok _ hsc hV)
theorem good_callP {all : Array Oper} {o : Oper} {l : List Oper} {c : Call} {x : Operand} {f : Nat} {args : AL} {res : AV} (hg : o.guard = none) (ho : o.op = .call c) (hc : c.callee = .value x) (ha : argsP t h x c.args.toList = some (f, args)) (hcl : clL args = true) (hE : Ent P f) (A : AC P f args res) (hsc : scA res = true) (hN : updK N t o.dst res = some t')
  (H : Good P F N Q (.ops all l :: k) t' h) : Good P F N Q (.ops all (o :: l) :: k) t h := good_op hg (call_wpP ho hc ha hcl hE A hsc) (updK_ok hN).1 ((updK_ok hN).2 ▸ H)
end
end Go.Proofs.YthjldemjipnmdaaGreatDoor.Sx
namespace Go.Proofs.YthjldemjipnmdaaGreatDoor.Sx
open Go.RowKit
def swN (a b x : Nat) : Nat := match Nat.beq x a with
 | true => b
 | false => match Nat.beq x b with
  | true => a
  | false => x
theorem swN_eq (a b x : Nat) : swN a b x = if x = a then b else if x = b then a else x := by
 unfold swN
 cases h : Nat.beq x a with
 | true => rw [if_pos (Nat.eq_of_beq_eq_true h)]
 | false =>
  rw [if_neg (Nat.ne_of_beq_eq_false h)]
  cases h2 : Nat.beq x b with
  | true => rw [if_pos (Nat.eq_of_beq_eq_true h2)]
  | false => rw [if_neg (Nat.ne_of_beq_eq_false h2)]
theorem swN_inv (a b x : Nat) : swN a b (swN a b x) = x := by
 simp only [swN_eq]
 by_cases h1 : x = a
 ·rw [if_pos h1]
  by_cases h2 : b = a
  ·rw [if_pos h2]; omega
  ·rw [if_neg h2, if_pos rfl]; omega
 ·rw [if_neg h1]
  by_cases h2 : x = b
  ·rw [if_pos h2, if_pos rfl]; omega
  ·rw [if_neg h2, if_neg h1, if_neg h2]
theorem swN_app {α : Type} (r : Nat → α) (a b g : Nat) : (fun g => r (swN a b g)) (swN a b g) = r g := by
 show r (swN a b (swN a b g)) = r g
 rw [swN_inv]
mutual
def swA (a b : Nat) : AV → AV
 | .ptr g j => .ptr (swN a b g) j
 | .own g => .own (swN a b g)
 | .pown g sz i j => .pown (swN a b g) sz i j
 | .agg cs => .agg (swL a b cs)
 | .tup cs => .tup (swL a b cs)
 | .fn f cs => .fn f (swL a b cs)
 | x => x
def swL (a b : Nat) : AL → AL
 | .nil => .nil
 | .cons x l => .cons (swA a b x) (swL a b l)
end
def swO (a b : Nat) : MO → MO
 | .box T cs => .box T (swL a b cs)
 | o => o
def swT {α : Sort _} (a b : Nat) : Tm → (Tm → α) → α
 | [], k => k []
 | (s, v) :: t, k => dcA (swA a b v) fun v => swT a b t fun t => k ((s, v) :: t)
def swH {α : Sort _} (a b : Nat) : Hp → (Hp → α) → α
 | [], k => k []
 | (s, .box T cs) :: h, k => dcL (swL a b cs) fun cs => swH a b h fun h => k ((swN a b s, .box T cs) :: h)
 | (s, .dead) :: h, k => swH a b h fun h => k ((swN a b s, .dead) :: h)
 | (s, .row T sz n els) :: h, k => swH a b h fun h => k ((swN a b s, .row T sz n els) :: h)
 | (s, .raw o) :: h, k => swH a b h fun h => k ((swN a b s, .raw o) :: h)
theorem swT_eq {α : Sort _} (a b : Nat) : ∀ (t : Tm) (k : Tm → α), swT a b t k = k (t.map fun p => (p.1, swA a b p.2))
 | [], k => rfl
 | (s, v) :: t, k => by unfold swT; rw [dcA_eq, swT_eq a b t]; rfl
theorem swH_eq {α : Sort _} (a b : Nat) : ∀ (h : Hp) (k : Hp → α), swH a b h k = k (h.map fun p => (swN a b p.1, swO a b p.2))
 | [], k => rfl
 | (s, .box T cs) :: h, k => by unfold swH; rw [dcL_eq, swH_eq a b h]; rfl
 | (s, .dead) :: h, k => by unfold swH; rw [swH_eq a b h]; rfl
 | (s, .row T sz n els) :: h, k => by unfold swH; rw [swH_eq a b h]; rfl
 | (s, .raw o) :: h, k => by unfold swH; rw [swH_eq a b h]; rfl
section
variable {w : World} {r : Rho} {M : Cond} (a b : Nat)
mutual
theorem sw_ok : ∀ (x : AV) {V : Value}, VR w x r M V → VR w (swA a b x) (fun g => r (swN a b g)) M V
 | .ptr g j, _, hv => by unfold swA; unfold VR at *; obtain ⟨c, h1, e⟩ := hv; exact ⟨c, (swN_app r a b g).trans h1, e⟩
 | .own g, _, hv => by unfold swA; unfold VR at *; exact ⟨(swN_app r a b g).trans hv.1, hv.2⟩
 | .pown g _ _ _, _, hv => by unfold swA; unfold VR at *; obtain ⟨c, n, d, h1, e⟩ := hv; exact ⟨c, n, d, (swN_app r a b g).trans h1, e⟩
 | .any, _, _ => by unfold swA VR; trivial
 | .val _, _, hv => by unfold swA; unfold VR at *; exact hv
 | .im _ _ _, _, hv => by unfold swA; unfold VR at *; exact hv
 | .pim _, _, hv => by unfold swA; unfold VR at *; exact hv
 | .agg cs, _, hv => by unfold swA; unfold VR at *; obtain ⟨c, e, hv⟩ := hv; exact ⟨c, e, swL_ok cs hv⟩
 | .tup cs, _, hv => by unfold swA; unfold VR at *; obtain ⟨c, e, hv⟩ := hv; exact ⟨c, e, swL_ok cs hv⟩
 | .fn _ cs, _, hv => by unfold swA; unfold VR at *; obtain ⟨c, e, hv⟩ := hv; exact ⟨c, e, swL_ok cs hv⟩
theorem swL_ok : ∀ (l : AL) {one : Bool} {Us : List Value}, VRL w l one r M Us → VRL w (swL a b l) one (fun g => r (swN a b g)) M Us
 | .nil, _, [], _ => by unfold swL VRL; trivial
 | .nil, _, _ :: _, hv => by unfold VRL at hv; exact hv.elim
 | .cons _ _, _, [], hv => by unfold VRL at hv; exact hv.elim
 | .cons x l, _, _ :: _, hv => by
  unfold swL
  unfold VRL at *
  exact ⟨hv.1, sw_ok x hv.2.1, swL_ok l hv.2.2⟩
end
end
theorem getH_sw (a b : Nat) (f : MO → MO) : ∀ (h : Hp) (g : Nat), getH (h.map fun p => (swN a b p.1, f p.2)) g = (getH h (swN a b g)).map f
 | [], g => by simp [getH]
 | (k, v) :: t, g => by
  simp only [List.map_cons]
  rw [getH_cons, getH_cons, getH_sw a b f t g]
  by_cases e : swN a b k = g
  ·rw [if_pos e, if_pos (by rw [← e, swN_inv])]; rfl
  ·rw [if_neg e, if_neg (fun e2 => e (by rw [e2, swN_inv]))]
section
variable {P : Program} {F : Fr} {N : Nat} {Q : Post} {k k' : List It} {t t' : Tm} {h h' : Hp} {Tb : Tab}
def swSt (a b : Nat) (t : Tm) (h : Hp) : Option (Tm × Hp) := swT a b t fun t => swH a b h fun h => some (t, h)
theorem good_swap (a b : Nat) (he : swSt a b t h = some (t', h')) (hp : ∀ g V, F.R0 g = some V → g ≠ a ∧ g ≠ b) (H : Good P F N Q k t' h') : Good P F N Q k t h := by
 unfold swSt at he
 rw [swT_eq, swH_eq] at he
 cases he
 rintro ac w ⟨r, hr, ht, hn, hd⟩
 refine H ac w ⟨fun g => r (swN a b g), ?_⟩
 have hlive : ∀ o : MO, (swO a b o).live = o.live := fun o => by cases o <;> rfl
 have hget : ∀ {g : Nat} {o' : MO}, getH (h.map fun p => (swN a b p.1, swO a b p.2)) g = some o' → ∃ o, getH h (swN a b g) = some o ∧ o' = swO a b o := by
  intro g o' e
  rw [getH_sw] at e
  cases ho : getH h (swN a b g) with
  | none => rw [ho] at e; cases e
  | some o => rw [ho] at e; exact ⟨o, rfl, (Option.some.inj e).symm⟩
 have hM : ∀ b', Mut F.M0 (fun g => r (swN a b g)) (h.map fun p => (swN a b p.1, swO a b p.2)) b' → Mut F.M0 r h b' := by
  rintro b' (hm | ⟨g, o', V, h1, h2, h3, h4⟩)
  ·exact .inl hm
  ·obtain ⟨o, ho, rfl⟩ := hget h1
   rw [hlive] at h2
   exact .inr ⟨_, o, V, ho, h2, h3, h4⟩
 have mono : ∀ {r1 : Rho} {l : AL} {one : Bool} {Us : List Value}, VRL w l one r1 (Mut F.M0 r h) Us → VRL w l one r1 (Mut F.M0 (fun g => r (swN a b g)) (h.map fun p => (swN a b p.1, swO a b p.2))) Us := fun hv =>
  VRL.mono (Nat.le_refl _) (fun j _ hj => ⟨rfl, fun h => hj (hM j h)⟩) _ (fun _ _ e => e) hv
 refine ⟨⟨fun g => ?_, fun g o' V h1 h2 => ?_, fun g g' o1 o2 V1 V2 b' h1 h2 l1 l2 h3 h4 h5 h6 => ?_, fun g o' V b' h1 h2 h3 h4 => ?_, hr.os, hr.tape, hr.output, hr.size, hr.frame, hr.m0, fun g V e => ?_⟩, fun s => ?_, hn, hd⟩
 ·rw [getH_sw, Option.isSome_map]; exact hr.dom _
 ·obtain ⟨o, ho, rfl⟩ := hget h1
  have := hr.objs _ o V ho h2
  cases o with
  | dead => trivial
  | box T cs =>
   obtain ⟨c, d, e, k1, k2⟩ := this
   exact ⟨c, d, e, k1, mono (swL_ok a b cs k2)⟩
  | row T sz n els =>
   obtain ⟨xs, k1, k2⟩ := this
   refine ⟨xs, k1, fun i hi => ?_⟩
   obtain ⟨Us, a1, a2, a3⟩ := k2 i hi
   exact ⟨Us, a1, a2, mono a3⟩
  | raw q => exact this
 ·obtain ⟨p1, q1, rfl⟩ := hget h1
  obtain ⟨p2, q2, rfl⟩ := hget h2
  rw [hlive] at l1 l2
  have := hr.sep _ _ p1 p2 V1 V2 b' q1 q2 l1 l2 h3 h4 h5 h6
  rw [← swN_inv a b g, this, swN_inv]
 ·obtain ⟨p1, q1, rfl⟩ := hget h1
  rw [hlive] at h2
  exact hr.base _ p1 V b' q1 h2 h3 h4
 ·have hg := hp g V e
  have : swN a b g = g := by rw [swN_eq, if_neg hg.1, if_neg hg.2]
  show r (swN a b g) = some V
  rw [this]
  exact hr.pin g V e
 ·rw [getT_map _ (by unfold swA; rfl)]
  exact VR.mono (Nat.le_refl _) (fun j _ hj => ⟨rfl, fun h => hj (hM j h)⟩) _ (fun _ _ e => e) (sw_ok a b _ (ht s))
theorem swap0 {a b : Nat} (hX : (F.X = fun _ => False) ∧ F.R0 = r0) : ∀ g V, F.R0 g = some V → g ≠ a ∧ g ≠ b := fun g V e => by rw [hX.2] at e; cases e
end
def setC : AL → Nat → AV → AL
 | .nil, _, _ => .nil
 | .cons _ l, 0, y => .cons y l
 | .cons x l, j + 1, y => .cons x (setC l j y)
theorem VRL.setC {w : World} {one : Bool} {r : Rho} {M : Cond} {v : Value} {y : AV} (hy : VR w y r M v) : ∀ {l : AL} {j : Nat} {Us : List Value}, getL l j = .val v → VRL w l one r M Us → VRL w (setC l j y) one r M Us
 | .nil, _, _, _, hv => by unfold Sx.setC; exact hv
 | .cons _ _, _, [], _, hv => by unfold VRL at hv; exact hv.elim
 | .cons x l, 0, U :: us, hg, hv => by
  unfold Sx.setC
  unfold VRL at *
  have hx : x = .val v := hg
  rw [hx] at hv
  have := hv.2.1
  unfold VR at this
  subst this
  exact ⟨hv.1, hy, hv.2.2⟩
 | .cons x l, j + 1, U :: us, hg, hv => by
  unfold Sx.setC
  unfold VRL at *
  exact ⟨hv.1, hv.2.1, VRL.setC hy (l := l) hg hv.2.2⟩
section
variable {P : Program} {F : Fr} {N : Nat} {Q : Post} {k k' : List It} {t t' : Tm} {h h' : Hp} {Tb : Tab}
theorem adopt_core {r : Rho} {w : World} (hr : HR F r h w) (g T sz : Nat) (els : Nat → AL) (hf : freshH h g = true) : HR F (updR r g (.slice none 0 0)) ((g, .row T sz 0 els) :: h) w ∧ Evo F r h w (updR r g (.slice none 0 0)) ((g, .row T sz 0 els) :: h) w ∧ VR w (.own g) (updR r g (.slice none 0 0)) (Mut F.M0 (updR r g (.slice none 0 0)) ((g, .row T sz 0 els) :: h)) (.slice none 0 0) := by
 obtain ⟨h1, h2⟩ := hr.new (w' := w) (.refl _ w) (fresh_ok hf) (V := .slice none 0 0) (fun b hb => by cases hb) (o := .row T sz 0 els) (fun _ => ⟨[], rowOk_nil w T sz, fun i hi => by omega⟩)
 refine ⟨h1, h2, ?_⟩
 unfold VR
 exact ⟨by unfold updR; rw [if_pos rfl], .inl ⟨_, _, _, rfl⟩⟩
theorem good_adoptT (s g T sz : Nat) (els : Nat → AL) (hf : freshH h g = true) (hs : getT t s = .val (.slice none 0 0)) (H : Good P F N Q k ((s, .own g) :: t) ((g, .row T sz 0 els) :: h)) : Good P F N Q k t h := by
 rintro a w ⟨r, hr, ht, hn, hd⟩
 obtain ⟨h1, h2, h3⟩ := adopt_core hr g T sz els hf
 refine H a w ⟨_, h1, fun s' => ?_, hn, hd⟩
 rw [getT_cons]
 split
 ·rename_i e
  subst e
  have := ht s
  rw [hs] at this
  unfold VR at this
  rw [this]; exact h3
 ·exact h2.vr (ht s')
theorem good_adoptB (b j g T sz : Nat) (els : Nat → AL) {T' : Nat} {cs : AL} (hf : freshH h g = true) (hb : getH h b = some (.box T' cs)) (hs : getL cs j = .val (.slice none 0 0)) {cs' : AL} (hc : setC cs j (.own g) = cs') (H : Good P F N Q k t ((b, .box T' cs') :: (g, .row T sz 0 els) :: h)) : Good P F N Q k t h := by
 subst hc
 rintro a w ⟨r, hr, ht, hn, hd⟩
 obtain ⟨h1, h2, h3⟩ := adopt_core hr g T sz els hf
 obtain ⟨V, hV⟩ := hr.some_of hb
 obtain ⟨c, d, e, k1, k2⟩ := hr.objs b _ V hb hV
 have hne : ¬ g = b := fun e => by rw [← e, fresh_ok hf] at hb; cases hb
 have hb' : getH ((g, MO.row T sz 0 els) :: h) b = some (.box T' cs) := by rw [getH_cons, if_neg hne]; exact hb
 have hV' : updR r g (.slice none 0 0) b = some V := h2.old b V hV
 have hset : VRL w (setC cs j (.own g)) true (updR r g (.slice none 0 0)) (Mut F.M0 (updR r g (.slice none 0 0)) ((g, .row T sz 0 els) :: h)) d.toList := VRL.setC h3 hs (h2.vrl k2)
 subst e
 obtain ⟨u1, u2⟩ := h1.set (w' := w) hb' rfl hV' (b := c) rfl rfl rfl rfl (Nat.le_refl _) (fun _ _ _ => rfl) (o' := .box T' (setC cs j (.own g))) (fun E => ⟨c, d, rfl, k1, E.vrl hset⟩)
 exact H a w ⟨_, u1, fun s' => u2.vr (h2.vr (ht s')), hn, hd⟩
end
end Go.Proofs.YthjldemjipnmdaaGreatDoor.Sx
namespace Go.Proofs.YthjldemjipnmdaaGreatDoor.Sx
open Go.RowKit
mutual
def fpA (g : Nat) (y : AV) : AV → AV
 | .ptr g' j => match Nat.beq g g', Nat.beq j 0 with
  | true, true => y
  | true, false => .any
  | false, _ => .ptr g' j
 | .agg cs => .agg (fpL g y cs)
 | .tup cs => .tup (fpL g y cs)
 | .fn f cs => .fn f (fpL g y cs)
 | x => x
def fpL (g : Nat) (y : AV) : AL → AL
 | .nil => .nil
 | .cons x l => .cons (fpA g y x) (fpL g y l)
end
def fpT {α : Sort _} (g : Nat) (y : AV) : Tm → (Tm → α) → α
 | [], k => k []
 | (s, v) :: t, k => dcA (fpA g y v) fun v => fpT g y t fun t => k ((s, v) :: t)
theorem fpT_eq {α : Sort _} (g : Nat) (y : AV) : ∀ (t : Tm) (k : Tm → α), fpT g y t k = k (t.map fun p => (p.1, fpA g y p.2))
 | [], k => rfl
 | (s, v) :: t, k => by unfold fpT; rw [dcA_eq, fpT_eq g y t]; rfl
section
variable {w : World} {r : Rho} {M M' : Cond} {g : Nat} {y : AV}
mutual
theorem fp_ok (hg : ∀ V, VR w (.ptr g 0) r M V → VR w y r M' V) (hm : ∀ k, k < w.heap.size → ¬ M k → ¬ M' k) : ∀ (x : AV) {V : Value}, VR w x r M V → VR w (fpA g y x) r M' V
 | .ptr g' j, V, hv => by
  unfold fpA
  split
  ·rename_i e1 e2
   obtain rfl := Nat.eq_of_beq_eq_true e1
   obtain rfl := Nat.eq_of_beq_eq_true e2
   exact hg V hv
  ·unfold VR; trivial
  ·unfold VR at *; exact hv
 | .own _, _, hv => by unfold fpA; unfold VR at *; exact hv
 | .any, _, hv => by unfold fpA VR; trivial
 | .val _, _, hv => by unfold fpA; unfold VR at *; exact hv
 | .pown _ _ _ _, _, hv => by unfold fpA; unfold VR at *; exact hv
 | .im _ _ _, _, hv => by unfold fpA; exact VR.mono (Nat.le_refl _) (fun k hk h => ⟨rfl, hm k hk h⟩) _ (fun _ _ h => h) hv
 | .pim _, _, hv => by unfold fpA; exact VR.mono (Nat.le_refl _) (fun k hk h => ⟨rfl, hm k hk h⟩) _ (fun _ _ h => h) hv
 | .agg cs, _, hv => by unfold fpA; unfold VR at hv ⊢; obtain ⟨a, e, hv⟩ := hv; exact ⟨a, e, fpL_ok hg hm cs hv⟩
 | .tup cs, _, hv => by unfold fpA; unfold VR at hv ⊢; obtain ⟨a, e, hv⟩ := hv; exact ⟨a, e, fpL_ok hg hm cs hv⟩
 | .fn _ cs, _, hv => by unfold fpA; unfold VR at hv ⊢; obtain ⟨a, e, hv⟩ := hv; exact ⟨a, e, fpL_ok hg hm cs hv⟩
theorem fpL_ok (hg : ∀ V, VR w (.ptr g 0) r M V → VR w y r M' V) (hm : ∀ k, k < w.heap.size → ¬ M k → ¬ M' k) : ∀ (l : AL) {one : Bool} {Us : List Value}, VRL w l one r M Us → VRL w (fpL g y l) one r M' Us
 | .nil, _, [], _ => by have _ := hg; have _ := hm; unfold fpL VRL; trivial
 | .nil, _, _ :: _, hv => by unfold VRL at hv; exact hv.elim
 | .cons _ _, _, [], hv => by unfold VRL at hv; exact hv.elim
 | .cons x l, _, _ :: _, hv => by
  unfold fpL
  unfold VRL at *
  exact ⟨hv.1, fp_ok hg hm x hv.2.1, fpL_ok hg hm l hv.2.2⟩
end
end
def fpSt (g : Nat) (t : Tm) (h : Hp) : Option (Tm × Hp) := match getH h g with
 | some (.box _ cs) => match clL cs with
  | true => fpT g (.pim cs) t fun t => some (t, (g, .dead) :: h)
  | false => none
 | _ => none
section
variable {P : Program} {F : Fr} {N : Nat} {Q : Post} {k k' : List It} {t t' : Tm} {h h' : Hp} {Tb : Tab}
theorem good_freezeB (g : Nat) (he : fpSt g t h = some (t', h')) (H : Good P F N Q k t' h') : Good P F N Q k t h := by
 unfold fpSt at he
 split at he <;> try (cases he; done)
 rename_i T cs hg
 split at he <;> try (cases he; done)
 rename_i hcl
 rw [fpT_eq] at he
 cases he
 rintro a w ⟨r, hr, ht, hn, hd⟩
 obtain ⟨h1, E⟩ := hr.kill hg
 refine H a w ⟨r, h1, fun s => ?_, hn, hd⟩
 rw [getT_map _ (by unfold fpA; rfl)]
 refine fp_ok (M := Mut F.M0 r h) (fun V hv => ?_) (fun b hb hnm => (E.keep b hb hnm).2) _ (ht s)
 unfold VR at hv
 obtain ⟨b, hV, rfl⟩ := hv
 obtain ⟨b', c, e, k1, k2⟩ := hr.objs g _ _ hg hV
 cases e
 unfold VR
 refine ⟨b, 0, rfl, (Array.getElem?_eq_some_iff.1 k1).1, ?_, c.toList, fun j U hj => ?_, VRL.closed _ hcl (E.vrl k2)⟩
 ·rintro (hm | ⟨g', o', V', a1, a2, a3, a4⟩)
  ·rcases hr.base g _ _ b hg rfl hV rfl with hb | hb
   ·have := (hr.m0.1 b hm).1; omega
   ·exact (hr.m0.1 b hm).2 hb
  ·rw [getH_cons] at a1
   by_cases e : g = g'
   ·rw [if_pos e] at a1; cases a1; cases a2
   ·rw [if_neg e] at a1
    exact e (hr.sep g g' _ o' _ V' b hg a1 rfl a2 hV a3 rfl a4)
 ·rw [cell_of_row w b _ c T (0, 0) k1, Nat.zero_add]
  simpa using hj
end
end Go.Proofs.YthjldemjipnmdaaGreatDoor.Sx
namespace Go.Proofs.YthjldemjipnmdaaGreatDoor.Sx
open Go.RowKit
def WC (P : Program) (f : FuncId) (pre : AL) (T sz n : Nat) (els : Nat → AL) (res : AV) : Prop := ∀ (w : World) (M : Cond) (V : Value) (Vs : List Value), MOk w M → (∀ b, blk V = some b → ¬ M b ∧ 4 ≤ b) → (∃ a n c, V = .slice a n c) → RO w r0 (fun k => M k ∨ blk V = some k) V (.row T sz n els) → VRL w pre false r0 (fun k => M k ∨ blk V = some k) Vs →
 Calls P f (Vs ++ [V]).toArray w (fun e w' => ∃ V', e = .returned V' ∧ VR w' res r0 M V' ∧ w'.os = w.os ∧ w'.tape = w.tape ∧ w'.output = w.output ∧ w.heap.size ≤ w'.heap.size ∧ ∀ k, k < w.heap.size → blk V ≠ some k → w'.heap[k]? = w.heap[k]?)
def retW (P : Program) (F : Fr) (fn : Func) (res : AV) : Post := bodyPost P fn (fun e w' => ∃ V', e = .returned V' ∧ VR w' res r0 F.M0 V' ∧ w'.os = F.w0.os ∧ w'.tape = F.w0.tape ∧ w'.output = F.w0.output ∧ F.w0.heap.size ≤ w'.heap.size ∧ ∀ k, k < F.w0.heap.size → ¬ F.X k → w'.heap[k]? = F.w0.heap[k]?)
section
variable {P : Program} {F : Fr} {N : Nat} {Q : Post} {k k' : List It} {t t' : Tm} {h h' : Hp} {Tb : Tab}
theorem WC.enter {f : FuncId} {fn : Func} {c : Code} {pre : AL} {T sz n : Nat} {els : Nat → AL} {res : AV} {t0 : Tm} (g : Nat) (hf : P.funcs[f]? = some fn) (hN : fn.ntmps = N) (hb : fn.body = some c) (hl : Nat.ble (pre.len + 1) N = true) (ht0 : argK 0 (appL pre (.cons (.own g) .nil)) some = some t0)
  (H : ∀ F : Fr, F.R0 = r0 → Good P F N (retW P F fn res) [.code c] t0 [(g, .row T sz n els)]) : WC P f pre T sz n els res := by
 rw [argK_eq] at ht0
 obtain rfl := Option.some.inj ht0
 have hl := Nat.le_of_ble_eq_true hl
 intro w M V Vs hM hMV hsl hro hv
 have hlen := hv.length
 have hr1 : ∀ {g' : Nat} {o : MO}, getH [(g, MO.row T sz n els)] g' = some o → g' = g ∧ o = .row T sz n els := by
  intro g' o e
  rw [getH_cons] at e
  split at e
  ·rename_i e2; exact ⟨e2.symm, (Option.some.inj e).symm⟩
  ·cases e
 have hrV : ∀ {g' : Nat} {V' : Value}, g' = g → updR r0 g V g' = some V' → V' = V := by
  intro g' V' e1 e2
  unfold updR at e2
  rw [if_pos e1] at e2
  exact (Option.some.inj e2).symm
 have hM1 : ∀ j, Mut M (updR r0 g V) [(g, MO.row T sz n els)] j → M j ∨ blk V = some j := by
  rintro j (hm | ⟨g', o, V', e1, e2, e3, e4⟩)
  ·exact .inl hm
  ·obtain ⟨e5, _⟩ := hr1 e1
   rw [hrV e5 e3] at e4
   exact .inr e4
 refine calls_of_wp hf hb ?_
 refine H ⟨w, fun k => blk V = some k, M, r0⟩ rfl _ w ⟨updR r0 g V, ?_, ?_, ?_, rfl⟩
 ·refine ⟨fun g' => ?_, fun g' o V' h1 h2 => ?_, fun g1 g2 o1 o2 V1 V2 b' h1 h2 _ _ _ _ _ _ => ?_, fun g' o V' b' h1 _ h3 h4 => ?_, rfl, rfl, rfl, Nat.le_refl _, (fun k _ _ => rfl), ⟨fun j hj => ⟨hM.1 j hj, fun e => (hMV j e).1 hj⟩, hM.2, fun j e => (hMV j e).2⟩, (fun _ _ e => by cases e)⟩
  ·rw [getH_cons]
   unfold updR
   by_cases e : g' = g
   ·rw [if_pos e, if_pos e.symm]; rfl
   ·rw [if_neg e, if_neg (fun e' => e e'.symm)]; rfl
  ·obtain ⟨e1, rfl⟩ := hr1 h1
   obtain rfl := hrV e1 h2
   obtain ⟨xs, q1, q2⟩ := hro
   refine ⟨xs, q1, fun i hi => ?_⟩
   obtain ⟨Us, a1, a2, a3⟩ := q2 i hi
   exact ⟨Us, a1, a2, VRL.mono (Nat.le_refl _) (fun j _ hj => ⟨rfl, fun h => hj (hM1 j h)⟩) _ (fun _ _ h => h) a3⟩
  ·rw [(hr1 h1).1, (hr1 h2).1]
  ·obtain ⟨e1, _⟩ := hr1 h1
   rw [hrV e1 h3] at h4
   exact .inr h4
 ·have hvM : VRL w pre false (updR r0 g V) (Mut M (updR r0 g V) [(g, MO.row T sz n els)]) Vs := VRL.mono (Nat.le_refl _) (fun j _ hj => ⟨rfl, fun h => hj (hM1 j h)⟩) _ (fun _ _ e => by cases e) hv
  have hvO : VRL w (.cons (.own g) .nil) false (updR r0 g V) (Mut M (updR r0 g V) [(g, MO.row T sz n els)]) [V] := by
   unfold VRL VRL VR
   exact ⟨(fun e => by cases e), ⟨by unfold updR; rw [if_pos rfl], .inl hsl⟩, trivial⟩
  have hL := TR_args _ _ 0 (VRL.app hvM hvO)
  intro s
  have hs := hL s
  rw [if_pos (Nat.zero_le _), Nat.sub_zero] at hs
  have e : (((Vs ++ [V]).toArray ++ Array.replicate (fn.ntmps - (Vs ++ [V]).toArray.size) undef).getD s undef) = ((Vs ++ [V])[s]?).getD undef := by
   rw [Array.getD_eq_getD_getElem?, Array.getElem?_append]
   split
   ·simp
   ·rename_i hlt
    rw [List.getElem?_eq_none (by simpa using hlt)]
    rw [Array.getElem?_replicate]
    split <;> rfl
  show VR w (getT (argT 0 (appL pre (.cons (.own g) .nil))) s) _ _ _
  rw [e]
  exact hs
 ·simp; omega
theorem good_retW (hT : TabOk P Tb) {fn : Func} {res v : AV} (hX : F.R0 = r0) (hl : retA Tb t h fn.results.toList = some v) (hs : Sub v res) : Good P F N (retW P F fn res) (.code .ret :: k) t h := fun a w hst => wp_ret (QS_ret k (by
 obtain ⟨r, hr, ht, hn, hd⟩ := hst
 have _ := hX
 unfold retA at hl
 split at hl <;> try (cases hl; done)
 rename_i l hl'
 rw [dcA_eq] at hl
 obtain rfl := Option.some.inj hl
 obtain ⟨V, h1, h2⟩ := results_ok hT hr ht hl'
 exact ⟨hd, V, h1, V, rfl, hs _ _ _ _ (frz_ok hr _ h2), hr.os, hr.tape, hr.output, hr.size, hr.frame⟩))
def lastO : AL → Option (AL × Nat)
 | .cons (.own g) .nil => some (.nil, g)
 | .cons x l => match lastO l with
  | some (p, g) => some (.cons x p, g)
  | none => none
 | _ => none
theorem lastO_ok {w : World} {one : Bool} {r : Rho} {M : Cond} : ∀ {l p : AL} {g : Nat} {Us : List Value}, lastO l = some (p, g) → VRL w l one r M Us → ∃ Vs V, Us = Vs ++ [V] ∧ VRL w p one r M Vs ∧ VR w (.own g) r M V
 | .nil, _, _, _, he, _ => by cases he
 | .cons x .nil, p, g, Us, he, hv => by
  match Us, hv with
  | [], hv => unfold VRL at hv; exact hv.elim
  | [U], hv =>
   unfold VRL at hv
   cases x <;> simp only [lastO] at he <;> try (cases he; done)
   cases he
   exact ⟨[], U, rfl, by unfold VRL; trivial, hv.2.1⟩
  | U :: U2 :: us, hv => unfold VRL VRL at hv; exact hv.2.2.elim
 | .cons x (.cons y l), p, g, Us, he, hv => by
  match Us, hv with
  | [], hv => unfold VRL at hv; exact hv.elim
  | U :: us, hv =>
   unfold VRL at hv
   have he' : (match lastO (.cons y l) with | some (p, g) => some (AL.cons x p, g) | none => none) = some (p, g) := by
    cases x <;> exact he
   cases hq : lastO (.cons y l) with
   | none => rw [hq] at he'; cases he'
   | some q =>
    obtain ⟨p2, g2⟩ := q
    rw [hq] at he'
    cases he'
    obtain ⟨Vs, V, rfl, h1, h2⟩ := lastO_ok hq hv.2.2
    exact ⟨U :: Vs, V, rfl, by unfold VRL; exact ⟨hv.1, hv.2.1, h1⟩, h2⟩
theorem call_wpW {o : Oper} {c : Call} {x : Operand} {f g T sz n : Nat} {els : Nat → AL} {l pre : AL} {res : AV} (ho : o.op = .call c) (hc : c.callee = .value x) (ha : argsA t x c.args.toList = some (f, l)) (hl : lastO l = some (pre, g)) (hcl : clL pre = true) (hg : getH h g = some (.row T sz n els)) (hE : Ent P f) (A : WC P f pre T sz n els res) (hsc : scA res = true) : OpWp P F o t h res ((g, .dead) :: h) := by
 intro r a w hr ht next Q hn
 obtain ⟨caps, e, hv⟩ := args_ok ht ha
 have hrun : (execOp a.eval o).run P w = .ok (.enter f ((c.args.map a.eval) ++ caps)) w := by
  have := hE (c.args.map a.eval ++ caps) w
  simp [execOp, ho, resolve, hc, e, Deferred.ofValue, invoke, this]
 unfold Oper.wp
 rw [hrun, Oper.upon_enter]
 have e2 : (c.args.map a.eval ++ caps) = (c.args.toList.map a.eval ++ caps.toList).toArray := by
  apply Array.ext'
  simp
 rw [e2]
 obtain ⟨Vs, V, e3, h1, h2⟩ := lastO_ok hl hv
 rw [e3]
 unfold VR at h2
 obtain ⟨hV, _⟩ := h2
 have hMb : ∀ k, blk V = some k → Mut F.M0 r h k := fun k hk => .inr ⟨g, _, V, hg, rfl, hV, hk⟩
 have hM1 : ∀ j, (Mut F.M0 r h j ∧ blk V ≠ some j) ∨ blk V = some j → Mut F.M0 r h j := by
  rintro j (h3 | h3)
  ·exact h3.1
  ·exact hMb j h3
 obtain ⟨xs, q1, q2⟩ := hr.objs g _ V hg hV
 refine (A w (fun k => Mut F.M0 r h k ∧ blk V ≠ some k) V Vs ⟨fun b hb => hr.lt hb.1, hr.gl⟩ (fun b hb => ⟨fun hm => hm.2 hb, hr.four hg rfl hV hb⟩) q1.slice ⟨xs, q1, fun i hi => ?_⟩ (VRL.closed _ hcl (VRL.mono (Nat.le_refl _) (fun j _ hj => ⟨rfl, fun h => hj (hM1 j h)⟩) _ (fun _ _ h => h) h1))).mono ?_
 ·obtain ⟨Us, a1, a2, a3⟩ := q2 i hi
  exact ⟨Us, a1, a2, VRL.mono (Nat.le_refl _) (fun j _ hj => ⟨rfl, fun h => hj (hM1 j h)⟩) _ (fun _ _ h => h) a3⟩
 ·rintro _ w' ⟨V', rfl, k1, k2, k3, k4, k5, k6⟩
  cases hbV : blk V with
  | some b =>
   obtain ⟨u1, u2⟩ := hr.set (w' := w') hg rfl hV hbV k2 k3 k4 k5 (fun k hk hne => k6 k hk (fun e => by rw [hbV] at e; cases e; exact hne rfl)) (o' := .dead) (fun _ => trivial)
   exact hn V' w' r u1 u2 (sc_ok _ hsc k1)
  | none =>
   obtain ⟨u1, u2⟩ := hr.kill hg
   have hb : Below w.heap.size w w' := ⟨k2, k3, k4, k5, fun k hk => k6 k hk (fun e => by rw [hbV] at e; cases e)⟩
   obtain ⟨u3, u4⟩ := u1.same hb
   exact hn V' w' r u3 (u2.trans u4) (sc_ok _ hsc k1)
theorem dg_callW {id : Nat} {all : Array Oper} {t0 : Tm} {h0 : Hp} {Dr : List Dt} {lo : List Oper} {o : Oper} {rd : List Nat} {tx : Tm} {c : Call} {y : Operand} {f g T sz n : Nat} {els : Nat → AL} {l pre : AL} {res : AV} (hp : dpre N all.toList o t = some (rd, tx)) (ho : o.op = .call c) (hc : c.callee = .value y) (ha : argsA tx y c.args.toList = some (f, l)) (hl : lastO l = some (pre, g)) (hcl : clL pre = true) (hg : getH h g = some (.row T sz n els)) (hE : Ent P f) (A : WC P f pre T sz n els res) (hsc : scA res = true) (hN : updK N t o.dst res = some t')
  (H : DG P F N Q k id all t0 h0 (⟨o, rd, tx, res, false, [g], [g]⟩ :: Dr) t' ((g, .dead) :: h) lo) : DG P F N Q k id all t0 h0 Dr t h (o :: lo) := by
 obtain ⟨h1, h2, h3, h4⟩ := dpre_ok hp
 refine dg_push (x := ⟨o, rd, tx, res, false, [g], [g]⟩) rfl ⟨h2, h3, h1, fun g' e => ?_, fun _ => ⟨h4, fun h5 hk => ⟨(g, .dead) :: h5, call_wpW ho hc ha hl hcl ((hk g (by simp)).trans hg) hE A hsc, fun g' e => ?_, fun g' e => ?_⟩⟩, fun e => by cases e⟩ (updK_ok hN).2 H
 ·rw [getH_cons, if_neg (fun e2 => by subst e2; simp at e)]
 ·rw [getH_cons, if_neg (fun e2 => by subst e2; simp at e)]
 ·have : g' = g := by simpa using e
  subst this
  rw [getH_cons, getH_cons, if_pos rfl, if_pos rfl]
end
end Go.Proofs.YthjldemjipnmdaaGreatDoor.Sx
namespace Go.Proofs.YthjldemjipnmdaaGreatDoor.Sx
open Go.RowKit
section
variable {P : Program} {F : Fr} {t : Tm} {h : Hp} {ty : TypeId} {ps : String} {af : Array Edge} {gd : Option (Nat × Bool)}
theorem ok_strOwn (k S T : Nat) (x : Operand) (s : ByteArray) (y ys ye : Ty) (e : Nat) (hx : ev t x = .val (.string s)) (hys : TyOk P S ys) (hks : ys.kind = .string) (hy : TyOk P T y) (hk : y.kind = .slice e) (he : TyOk P e ye) (hke : ye.kind = .int .u8) (hsm : s.size ≤ 1000000) (hf : freshH h k = true) :
  OpWp P F ⟨some k, .convert S T x, ty, ps, af, gd⟩ t h (.own k) ((k, .row mkT 1 s.size (byteEls s)) :: h) :=
 OpWp.value fun r a w hr ht => by
  have hrun := run_bytes_of_string (P := P) w S T e s (hys.string hks) (hy.slice hk) (he.int hke)
  have hge := grownCap_ge w s.size 0 e
  have hle := grownCap_le_maxLen w s.size 0 e (by unfold maxLen; omega)
  have hsz : (bytesRow s (grownCap w s.size 0 e)).size = grownCap w s.size 0 e := by
   unfold bytesRow
   rw [Array.size_append, Array.size_map, Array.size_replicate]
   have : s.data.size = s.size := rfl
   omega
  have hnew := heap_alloc_new w.drew (.cells (bytesRow s (grownCap w s.size 0 e)) e ((bytesRow s (grownCap w s.size 0 e)).size, (bytesRow s (grownCap w s.size 0 e)).size + 1))
  have hb : Below w.heap.size w (w.drew.alloc (.cells (bytesRow s (grownCap w s.size 0 e)) e ((bytesRow s (grownCap w s.size 0 e)).size, (bytesRow s (grownCap w s.size 0 e)).size + 1))) := (Below.refl _ _).drew.alloc (Nat.le_refl _) _
  obtain ⟨h1, h2⟩ := hr.new hb (fresh_ok hf) (V := .slice (some ⟨w.heap.size, 0, none⟩) s.size (grownCap w s.size 0 e)) (fun b hbk => by cases hbk; exact Nat.le_refl _) (o := .row mkT 1 s.size (byteEls s)) (fun _ => ⟨(bytesRow s (grownCap w s.size 0 e)).toList.take (s.size * 1), ⟨by rw [List.length_take, Array.length_toList, hsz]; omega, .inr ⟨w.heap.size, _, _, e, _, rfl, .inr ⟨rfl, Nat.le_refl _⟩, hnew, hge, hle, by rw [hsz, Nat.mul_one], rfl⟩⟩, fun i hi => by
   refine ⟨[.int .u8 (byteAt s i)], fun j U hj => ?_, rfl, by unfold byteEls VRL; exact ⟨fun _ => rfl, vr_val, by unfold VRL; trivial⟩⟩
   cases j with
   | succ j => simp at hj
   | zero =>
    simp only [List.getElem?_cons_zero, Option.some.injEq] at hj
    subst hj
    rw [List.getElem?_take, if_pos (by omega), Array.getElem?_toList]
    have := bytesRow_at s (grownCap w s.size 0 e) i hi
    rw [show i * 1 + 0 = i by omega, this]
    have hd : s.data[i]? = some s.data[i] := by rw [Array.getElem?_eq_getElem]
    simp [byteAt, hd]⟩)
  refine ⟨.slice (some ⟨w.heap.size, 0, none⟩) s.size (grownCap w s.size 0 e), _, _, ?_, h1, h2, ?_⟩
  ·simp only [execOp, VR_val ht hx, Sem.run_bind, hrun, Result.andThen, Sem.run_pure]
  ·unfold VR
   exact ⟨by unfold updR; rw [if_pos rfl], .inl ⟨_, _, _, rfl⟩⟩
end
end Go.Proofs.YthjldemjipnmdaaGreatDoor.Sx
namespace Go.Proofs.YthjldemjipnmdaaGreatDoor.Sx
open Go.RowKit Go.MapKept
section
variable {P : Program} {F : Fr} {t : Tm} {h : Hp} {d : Option Tmp} {ty : TypeId} {ps : String} {af : Array Edge} {gd : Option (Nat × Bool)}
theorem vrl_vals {w : World} {r : Rho} {M : Cond} : ∀ (Us : List Value) {l : AL}, l = valsL Us → VRL w l false r M Us
 | [], _, e => by subst e; unfold valsL VRL; trivial
 | U :: Us, _, e => by
  subst e
  unfold valsL VRL
  exact ⟨fun e => (by cases e), vr_val, vrl_vals Us rfl⟩
theorem ok_range (k T : Nat) (x : Operand) (s : ByteArray) (hx : ev t x = .val (.string s)) (hT : P.underlying T = some .string) (hf : freshH h k = true) :
  OpWp P F ⟨some k, .range T x, ty, ps, af, gd⟩ t h (.ptr k 0) ((k, .raw (.stringIter s 0)) :: h) :=
 OpWp.value fun r a w hr ht => by
  obtain ⟨h1, h2⟩ := hr.new (below_allocW w (.stringIter s 0)) (fresh_ok hf) (V := .pointer (some ⟨w.heap.size, 0, none⟩)) (fun b hb => by cases hb; exact Nat.le_refl _) (o := .raw (.stringIter s 0)) (fun _ => ⟨w.heap.size, rfl, heap_alloc_new w _, fun e => by cases e⟩)
  refine ⟨.pointer (some ⟨w.heap.size, 0, none⟩), _, _, ?_, h1, h2, ?_⟩
  ·simp [execOp, Instr.range, VR_val ht hx, run_underlying hT, newObj, Result.andThen]
   rfl
  ·unfold VR
   exact ⟨w.heap.size, by unfold updR; rw [if_pos rfl], rfl⟩
theorem ok_next (x : Operand) (g pos : Nat) (s : ByteArray) (hx : ev t x = .ptr g 0) (hg : getH h g = some (.raw (.stringIter s pos))) (hp : pos < s.size) :
  OpWp P F ⟨d, .next x true, ty, ps, af, gd⟩ t h (.tup (.cons (.val (.bool true)) (.cons (.val (.int .i64 pos)) (.cons (.val (.int .i32 (Utf8.decode s pos).1)) .nil)))) ((g, .raw (.stringIter s (pos + (Utf8.decode s pos).2))) :: h) :=
 OpWp.value fun r a w hr ht => by
  have hx' := VR_ev ht x
  rw [hx] at hx'
  unfold VR at hx'
  obtain ⟨b, h1, he⟩ := hx'
  obtain ⟨b', hb', hh, _⟩ := hr.objs g _ _ hg h1
  cases hb'
  obtain ⟨k1, k2⟩ := hr.set (w' := w.iterAt b s (pos + (Utf8.decode s pos).2)) hg rfl h1 (b := b) rfl rfl rfl rfl (by rw [Lib.iterAt_size]; exact Nat.le_refl _) (fun k _ hne => Lib.iterAt_other _ _ _ _ _ hne)
   (o' := .raw (.stringIter s (pos + (Utf8.decode s pos).2))) (fun _ => ⟨b, rfl, Lib.iterAt_heap _ _ _ _ _ hh, fun e => by cases e⟩)
  refine ⟨.tuple #[.bool true, .int .i64 pos, .int .i32 (Utf8.decode s pos).1], _, r, ?_, k1, k2, ?_⟩
  ·simp only [execOp, he, Sem.run_bind, Lib.run_next_any_at w b s pos ty hh hp, Result.andThen, Sem.run_pure]
  ·unfold VR
   refine ⟨_, rfl, ?_⟩
   exact vrl_vals _ rfl
theorem ok_over (x : Operand) (g pos : Nat) (s : ByteArray) (hx : ev t x = .ptr g 0) (hg : getH h g = some (.raw (.stringIter s pos))) (hp : ¬ pos < s.size) :
  OpWp P F ⟨d, .next x true, ty, ps, af, gd⟩ t h (.tup (.cons (.val (.bool false)) .nil)) h :=
 OpWp.pure fun r a w hr ht => by
  have hx' := VR_ev ht x
  rw [hx] at hx'
  unfold VR at hx'
  obtain ⟨b, h1, he⟩ := hx'
  obtain ⟨b', hb', hh, _⟩ := hr.objs g _ _ hg h1
  cases hb'
  refine ⟨.tuple #[.bool false], by simp only [execOp, he, Sem.run_bind, Lib.run_next_end_at w b s pos ty hh hp, Result.andThen, Sem.run_pure], ?_⟩
  unfold VR
  exact ⟨_, rfl, vrl_vals _ rfl⟩
theorem ok_makeMap (k T : Nat) (hf : freshH h k = true) :
  OpWp P F ⟨some k, .makeMap T none, ty, ps, af, gd⟩ t h (.own k) ((k, .raw (.map #[] 0)) :: h) :=
 OpWp.value fun r a w hr ht => by
  obtain ⟨h1, h2⟩ := hr.new (below_allocW w (.map #[] 0)) (fresh_ok hf) (V := .map (some w.heap.size)) (fun b hb => by cases hb; exact Nat.le_refl _) (o := .raw (.map #[] 0)) (fun _ => ⟨w.heap.size, rfl, heap_alloc_new w _, fun _ => rfl⟩)
  refine ⟨.map (some w.heap.size), _, _, ?_, h1, h2, ?_⟩
  ·simp [execOp, Instr.makeMap, newObj, Result.andThen]
   rfl
  ·unfold VR
   exact ⟨by unfold updR; rw [if_pos rfl], .inr ⟨_, rfl⟩⟩
theorem raw_map {w : World} {r : Rho} {g : Nat} {es : Array MapEntry} {clock : Nat} {V : Value} (hr : HR F r h w) (hg : getH h g = some (.raw (.map es clock))) (hv : VR w (.own g) r (Mut F.M0 r h) V) :
  ∃ b, V = .map (some b) ∧ r g = some (.map (some b)) ∧ w.heap[b]? = some (.map es clock) := by
 unfold VR at hv
 obtain ⟨b, hb, hh, hm⟩ := hr.objs g _ _ hg hv.1
 have := hm rfl
 subst this
 exact ⟨b, rfl, hv.1, hh⟩
def lookV (ok : Bool) (z : Value) : Option (Nat × Value) → AV
 | some (_, v) => (match ok with
  | true => .tup (.cons (.val v) (.cons (.val (.bool true)) .nil))
  | false => .val v)
 | none => (match ok with
  | true => .tup (.cons (.val z) (.cons (.val (.bool false)) .nil))
  | false => .val z)
theorem ok_lookup (T kt et g : Nat) (x ix : Operand) (ok : Bool) (es : Array MapEntry) (clock : Nat) (key z : Value) (dsc : TypeDesc) (a : Option (Nat × Value)) (hx : ev t x = .own g) (hg : getH h g = some (.raw (.map es clock))) (hi : ev t ix = .val key)
  (hm : P.underlying T = some (.map kt et)) (hd : P.underlying kt = some dsc) (hk : IsKey dsc key) (hf : Instr.findNow dsc key es.toList 0 = some a) (hz : ∀ w, (zeroValue et).run P w = .ok z w) :
  OpWp P F ⟨d, .lookup T x ix ok, ty, ps, af, gd⟩ t h (lookV ok z a) h :=
 OpWp.pure fun r ac w hr ht => by
  have hx' := VR_ev ht x
  rw [hx] at hx'
  obtain ⟨b, he, _, hh⟩ := raw_map hr hg hx'
  cases a with
  | none =>
   refine ⟨match ok with | true => .tuple #[z, .bool false] | false => z, ?_, ?_⟩
   ·simp only [execOp, Instr.lookup, he, VR_val ht hi, Sem.run_bind, run_underlying hm, Result.andThen, Go.MapKept.run_getObj_map hh, Sem.run_pure, run_checkKey hd hk, run_findKey hd hf, hz]
    cases ok <;> rfl
   ·cases ok with
    | false => exact vr_val
    | true =>
     unfold lookV VR
     exact ⟨_, rfl, vrl_vals _ rfl⟩
  | some p =>
   refine ⟨match ok with | true => .tuple #[p.2, .bool true] | false => p.2, ?_, ?_⟩
   ·simp only [execOp, Instr.lookup, he, VR_val ht hi, Sem.run_bind, run_underlying hm, Result.andThen, Go.MapKept.run_getObj_map hh, Sem.run_pure, run_checkKey hd hk, run_findKey hd hf]
    cases ok <;> rfl
   ·cases ok with
    | false => exact vr_val
    | true =>
     unfold lookV VR
     exact ⟨_, rfl, vrl_vals _ rfl⟩
def putE (es : Array MapEntry) (clock : Nat) (key v : Value) : Option (Nat × Value) → Obj
 | some (i, _) => .map (es.modify i fun e => { e with key := key, val := v }) clock
 | none => .map (es.push { key := key, val := v, born := clock }) (clock + 1)
theorem run_update {w : World} {T kt et b : Nat} {es : Array MapEntry} {clock : Nat} {key v : Value} {dsc : TypeDesc} {a : Option (Nat × Value)} (hm : P.underlying T = some (.map kt et)) (hd : P.underlying kt = some dsc) (hk : IsKey dsc key) (hh : w.heap[b]? = some (.map es clock)) (hf : Instr.findNow dsc key es.toList 0 = some a) (hs : ∀ i u, a = some (i, u) → ((es[i]?).map (·.key)).getD key = key) :
  (Instr.mapUpdate T (.map (some b)) key v).run P w = .ok () { w with heap := w.heap.setIfInBounds b (putE es clock key v a) } := by
 cases a with
 | none => simp [Instr.mapUpdate, run_underlying hm, Go.MapKept.run_getObj_map hh, run_checkKey hd hk, run_findKey hd hf, run_setObj_map _ hh, Result.andThen, putE]
 | some p =>
  have := hs p.1 p.2 rfl
  simp only [Instr.mapUpdate, Sem.run_bind, run_underlying hm, Go.MapKept.run_getObj_map hh, run_checkKey hd hk, run_findKey hd hf, Result.andThen, this, run_keyThatStays hk, run_setObj_map _ hh, putE]
theorem ok_update (T kt et g : Nat) (x ix u : Operand) (es : Array MapEntry) (clock : Nat) (key v : Value) (dsc : TypeDesc) (a : Option (Nat × Value)) (hx : ev t x = .own g) (hg : getH h g = some (.raw (.map es clock))) (hi : ev t ix = .val key) (hu : ev t u = .val v)
  (hm : P.underlying T = some (.map kt et)) (hd : P.underlying kt = some dsc) (hk : IsKey dsc key) (hf : Instr.findNow dsc key es.toList 0 = some a) (hs : ∀ i u, a = some (i, u) → ((es[i]?).map (·.key)).getD key = key) (op : Op) (ho : op = .mapUpdate T x ix u ∨ op = .insert T x ix u) :
  OpWp P F ⟨none, op, ty, ps, af, gd⟩ t h .any ((g, .raw (putE es clock key v a)) :: h) :=
 OpWp.skip fun r ac w hr ht => by
  have hx' := VR_ev ht x
  rw [hx] at hx'
  obtain ⟨b, he, hrg, hh⟩ := raw_map hr hg hx'
  obtain ⟨q1, q2⟩ := heap_set (o' := putE es clock key v a) hh
  obtain ⟨k1, k2⟩ := hr.set (w' := { w with heap := w.heap.setIfInBounds b (putE es clock key v a) }) hg rfl hrg (b := b) rfl rfl rfl rfl (by simp) (fun k _ hne => q2 k hne)
   (o' := .raw (putE es clock key v a)) (fun _ => ⟨b, rfl, q1, fun _ => rfl⟩)
  refine ⟨_, r, ?_, k1, k2⟩
  have hrun := run_update (v := v) hm hd hk hh hf hs
  rcases ho with rfl | rfl <;> simp only [execOp, he, VR_val ht hi, VR_val ht hu, Sem.run_bind, hrun, Result.andThen, Sem.run_pure]
end
end Go.Proofs.YthjldemjipnmdaaGreatDoor.Sx
namespace Go.Proofs.YthjldemjipnmdaaGreatDoor.Sx
open Go.RowKit
def HC (P : Program) (f : FuncId) (args : AL) (h : Hp) (res : AV) (h' : Hp) : Prop := ∀ (F : Fr) (r : Rho) (w : World) (Vs : List Value), HR F r h w → VRL w args false r (Mut F.M0 r h) Vs →
 Calls P f Vs.toArray w (fun e w' => ∃ V r', e = .returned V ∧ HR F r' h' w' ∧ Evo F r h w r' h' w' ∧ VR w' res r' (Mut F.M0 r' h') V)
def retH (P : Program) (F : Fr) (fn : Func) (res : AV) (h' : Hp) : Post := bodyPost P fn (fun e w' => ∃ V r', e = .returned V ∧ HR F r' h' w' ∧ VR w' res r' (Mut F.M0 r' h') V)
section
variable {P : Program} {F : Fr} {N : Nat} {Q : Post} {k k' : List It} {t t' : Tm} {h h' : Hp} {Tb : Tab}
def frH (F : Fr) (r : Rho) (h : Hp) (w : World) : Fr := ⟨w, fun b => ∃ (g : Nat) (o : MO) (V : Value), getH h g = some o ∧ o.live = true ∧ r g = some V ∧ blk V = some b, F.M0, r⟩
theorem HR.down {r : Rho} {w : World} (hr : HR F r h w) : HR (frH F r h w) r h w := by
 refine ⟨hr.dom, hr.objs, hr.sep, fun g o V b h1 h2 h3 h4 => .inr ⟨g, o, V, h1, h2, h3, h4⟩, rfl, rfl, rfl, Nat.le_refl _, fun _ _ _ => rfl, ⟨fun b hb => ⟨Nat.lt_of_lt_of_le (hr.m0.1 b hb).1 hr.size, ?_⟩, hr.gl, ?_⟩, fun _ _ e => e⟩
 ·rintro ⟨g, o, V, h1, h2, h3, h4⟩
  have := hr.m0.1 b hb
  rcases hr.base g o V b h1 h2 h3 h4 with h5 | h5
  ·omega
  ·exact this.2 h5
 ·rintro b ⟨g, o, V, h1, h2, h3, h4⟩
  exact hr.four h1 h2 h3 h4
theorem HR.up {r r' : Rho} {w w' : World} (hr : HR F r h w) (hd : HR (frH F r h w) r' h' w') : HR F r' h' w' ∧ Evo F r h w r' h' w' := by
 have hX : ∀ b, (frH F r h w).X b → F.w0.heap.size ≤ b ∨ F.X b := by
  rintro b ⟨g, o, V, h1, h2, h3, h4⟩
  exact hr.base g o V b h1 h2 h3 h4
 have hM : ∀ b, (frH F r h w).X b → Mut F.M0 r h b := fun b hb => .inr hb
 have hs : w.heap.size ≤ w'.heap.size := hd.size
 refine ⟨⟨hd.dom, hd.objs, hd.sep, fun g o V b h1 h2 h3 h4 => ?_, hd.os.trans hr.os, hd.tape.trans hr.tape, hd.output.trans hr.output, Nat.le_trans hr.size hs, fun j hj hx => ?_, hr.m0, fun g V e => hd.pin g V (hr.pin g V e)⟩, ⟨hs, hd.pin, fun j hj hm => ?_⟩⟩
 ·rcases hd.base g o V b h1 h2 h3 h4 with h5 | h5
  ·exact .inl (Nat.le_trans hr.size h5)
  ·exact hX b h5
 ·have := hd.frame j (Nat.lt_of_lt_of_le hj hr.size) (fun hb => by
   rcases hX j hb with h5 | h5
   ·omega
   ·exact hx h5)
  exact this.trans (hr.frame j hj hx)
 ·refine ⟨hd.frame j hj (fun hb => hm (hM j hb)), ?_⟩
  rintro (h5 | ⟨g, o, V, h1, h2, h3, h4⟩)
  ·exact hm (.inl h5)
  ·rcases hd.base g o V j h1 h2 h3 h4 with h5 | h5
   ·have : (frH F r h w).w0.heap.size = w.heap.size := rfl
    omega
   ·exact hm (hM j h5)
theorem HC.enter {f : FuncId} {fn : Func} {c : Code} {args : AL} {res : AV} {t0 : Tm} (hf : P.funcs[f]? = some fn) (hN : fn.ntmps = N) (hb : fn.body = some c) (hl : Nat.ble args.len N = true) (ht0 : argK 0 args some = some t0)
  (H : ∀ F : Fr, (∀ g V, F.R0 g = some V → freshH h g = false) → Good P F N (retH P F fn res h') [.code c] t0 h) : HC P f args h res h' := by
 rw [argK_eq] at ht0
 obtain rfl := Option.some.inj ht0
 have hl := Nat.le_of_ble_eq_true hl
 intro F r w Vs hr hv
 have hlen := hv.length
 have hw := H (frH F r h w) (fun g V e => ?_) ⟨Vs.toArray ++ Array.replicate (fn.ntmps - Vs.toArray.size) undef, []⟩ w ⟨r, hr.down, ?_, ?_, rfl⟩
 ·refine (calls_of_wp (R := fun e w' => ∃ V r', e = .returned V ∧ HR (frH F r h w) r' h' w' ∧ VR w' res r' (Mut (frH F r h w).M0 r' h') V) hf hb hw).mono ?_
  rintro _ w' ⟨V, r', rfl, h1, h2⟩
  obtain ⟨u1, u2⟩ := hr.up h1
  exact ⟨V, r', rfl, u1, u2, h2⟩
 ·have := hr.dom g
  rw [show r g = some V from e] at this
  unfold freshH
  cases hg : getH h g with
  | none => rw [hg] at this; cases this
  | some o => rfl
 ·have hmono : ∀ s, VR w (getT (argT 0 args) s) r (Mut F.M0 r h) (if 0 ≤ s then (Vs[s - 0]?).getD undef else undef) := TR_args args Vs 0 hv
  intro s
  have hs := hmono s
  rw [if_pos (Nat.zero_le _), Nat.sub_zero] at hs
  have e : ((Vs.toArray ++ Array.replicate (fn.ntmps - Vs.toArray.size) undef).getD s undef) = (Vs[s]?).getD undef := by
   rw [Array.getD_eq_getD_getElem?, Array.getElem?_append]
   split
   ·simp
   ·rename_i hlt
    rw [List.getElem?_eq_none (by simpa using hlt)]
    rw [Array.getElem?_replicate]
    split <;> rfl
  show VR w (getT (argT 0 args) s) r (Mut F.M0 r h) _
  rw [e]
  exact hs
 ·simp only [Array.size_append, Array.size_replicate, List.size_toArray]
  omega
theorem retH_core (hT : TabOk P Tb) {fn : Func} {res : AV} {l : AL} (hl : resL Tb t h fn.results.toList = some l) (hs : Sub (resA l) res) {a : Act} {w : World} (hst : ST F N t h a w) : retH P F fn res h .ret a w := by
 obtain ⟨r, hr, ht, hn, hd⟩ := hst
 obtain ⟨V, h1, h2⟩ := results_ok hT hr ht hl
 exact ⟨hd, V, h1, V, r, rfl, hr, hs _ _ _ _ h2⟩
theorem good_retH (hT : TabOk P Tb) {fn : Func} {res : AV} {l : AL} (hl : resL Tb t h fn.results.toList = some l) (hs : Sub (resA l) res) : Good P F N (retH P F fn res h) (.code .ret :: k) t h := fun _ _ hst =>
 wp_ret (QS_ret k (retH_core hT hl hs hst))
theorem call_wpH {o : Oper} {c : Call} {x : Operand} {f : Nat} {args : AL} {res : AV} (ho : o.op = .call c) (hc : c.callee = .value x) (ha : argsA t x c.args.toList = some (f, args)) (hE : Ent P f) (A : HC P f args h res h') : OpWp P F o t h res h' := by
 intro r a w hr ht next Q hn
 obtain ⟨caps, e, hv⟩ := args_ok ht ha
 have hrun : (execOp a.eval o).run P w = .ok (.enter f ((c.args.map a.eval) ++ caps)) w := by
  have := hE (c.args.map a.eval ++ caps) w
  simp [execOp, ho, resolve, hc, e, Deferred.ofValue, invoke, this]
 unfold Oper.wp
 rw [hrun, Oper.upon_enter]
 have e2 : (c.args.map a.eval ++ caps) = (c.args.toList.map a.eval ++ caps.toList).toArray := by
  apply Array.ext'
  simp
 rw [e2]
 refine (A F r w _ hr hv).mono ?_
 rintro _ w' ⟨V, r', rfl, h1, h2, h3⟩
 exact hn V w' r' h1 h2 h3
theorem good_callH {all : Array Oper} {o : Oper} {l : List Oper} {c : Call} {x : Operand} {f : Nat} {args : AL} {res : AV} (hg0 : o.guard = none) (ho : o.op = .call c) (hc : c.callee = .value x) (ha : argsA t x c.args.toList = some (f, args)) (hE : Ent P f) (A : HC P f args h res h') (hN : updK N t o.dst res = some t')
  (H : Good P F N Q (.ops all l :: k) t' h') : Good P F N Q (.ops all (o :: l) :: k) t h := good_op hg0 (call_wpH ho hc ha hE A) (updK_ok hN).1 ((updK_ok hN).2 ▸ H)
theorem AC.hc {f : FuncId} {args : AL} {res : AV} (A : AC P f args res) (hcl : clL args = true) : HC P f args h res h := by
 intro F r w Vs hr hv
 refine (A w (Mut F.M0 r h) _ hr.mok (VRL.closed _ hcl hv)).mono ?_
 rintro _ w' ⟨V, rfl, hV, hb⟩
 obtain ⟨h1, h2⟩ := hr.same hb
 exact ⟨V, r, rfl, h1, h2, hV.lift⟩
end
end Go.Proofs.YthjldemjipnmdaaGreatDoor.Sx
namespace Go.Proofs.YthjldemjipnmdaaGreatDoor.Sx
open Go.RowKit
section
variable {P : Program} {F : Fr} {t : Tm} {h : Hp} {ty : TypeId} {ps : String} {af : Array Edge} {gd : Option (Nat × Bool)}
theorem ok_cutOwn (s T : Nat) (x q : Operand) (g T' sz n : Nat) (els : Nat → AL) (u : Int) (y z : Ty) (e : Nat) (hx : ev t x = .own g) (hg : getH h g = some (.row T' sz n els)) (hu : bndA t (some q) 0 = some u) (hy : TyOk P T y) (hk : y.kind = .slice e) (hz : TyOk P e z) (hb : 0 ≤ u ∧ u ≤ n) (hs : freshH h s = true) :
  OpWp P F ⟨some s, .slice T x none (some q) none, ty, ps, af, gd⟩ t h (.own s) ((s, .row T' sz u.toNat els) :: (g, .dead) :: h) :=
 OpWp.value fun r a w hr ht => by
  have hv := VR_ev ht x
  rw [hx] at hv
  unfold VR at hv
  obtain ⟨hV, _⟩ := hv
  obtain ⟨xs, ho, hel⟩ := hr.objs g _ _ hg hV
  have key : ∀ (V' : Value) (hsl : ∃ a n c, V' = .slice a n c) (hro : rowOk w T' sz V' u.toNat (xs.take (u.toNat * sz))) (hbk : ∀ b, blk V' = some b → blk (a.eval x) = some b) (hrun : (execOp a.eval ⟨some s, .slice T x none (some q) none, ty, ps, af, gd⟩).run P w = .ok (.value V') w),
    ∃ V w' r', (execOp a.eval ⟨some s, .slice T x none (some q) none, ty, ps, af, gd⟩).run P w = .ok (.value V) w' ∧ HR F r' ((s, .row T' sz u.toNat els) :: (g, .dead) :: h) w' ∧ Evo F r h w r' ((s, .row T' sz u.toNat els) :: (g, .dead) :: h) w' ∧ VR w' (.own s) r' (Mut F.M0 r' ((s, .row T' sz u.toNat els) :: (g, .dead) :: h)) V := by
   intro V' hsl hro hbk hrun
   obtain ⟨k1, k2⟩ := hr.grow (w' := w) hg rfl hV (fresh_ok hs) ⟨rfl, rfl, rfl, Nat.le_refl _, fun _ _ _ => rfl⟩ (V' := V') (fun b hb' => .inl (hbk b hb')) (o' := .row T' sz u.toNat els) (fun E => ⟨_, hro, fun i hi => by
    obtain ⟨Us, a1, a2, a3⟩ := hel i (by omega)
    refine ⟨Us, fun j U hj => ?_, a2, E.vrl0 a3⟩
    have hjl : j < sz := by rw [← a2]; exact (List.getElem?_eq_some_iff.1 hj).1
    rw [List.getElem?_take, if_pos ?_]
    ·exact a1 j U hj
    ·have : (i + 1) * sz ≤ u.toNat * sz := Nat.mul_le_mul_right _ (by omega)
     rw [Nat.add_mul, Nat.one_mul] at this
     omega⟩)
   refine ⟨V', w, _, hrun, k1, k2, ?_⟩
   unfold VR
   exact ⟨by unfold updR; rw [if_pos rfl], .inl hsl⟩
  have hlen : (xs.take (u.toNat * sz)).length = u.toNat * sz := by
   rw [List.length_take, ho.1]
   exact Nat.min_eq_left (Nat.mul_le_mul_right _ (by omega))
  have h1 : ∀ cap : Nat, n ≤ cap → (Instr.sliceBound (a.eval q) cap .sliceAcap).run P w = .ok u.toNat w := fun cap hc => bnd_run (P := P) ht (x := q) hu cap .sliceAcap hb.1 (by omega)
  rcases ho.2 with ⟨he, hn⟩ | ⟨b, cap, cur, T0, fz, he, hm, h2, h3, h4, h5, h6⟩
  ·refine key (.slice none 0 0) ⟨_, _, _, rfl⟩ ⟨hlen, .inl ⟨rfl, by omega⟩⟩ (fun b hb' => by cases hb') ?_
   have hu0 : u.toNat = 0 := by omega
   have h0 := h1 0 (by omega)
   simp [execOp, Instr.sliceAt, Instr.slice, Instr.sliceBounds, run_underlying (hy.slice hk), he, h0, hz.run_size, hu0]
  ·refine key (.slice (some ⟨b, 0, none⟩) u.toNat cap) ⟨_, _, _, rfl⟩ ⟨hlen, .inr ⟨b, cap, cur, T0, fz, rfl, hm, h2, by omega, h4, h5, ?_⟩⟩ (fun b' hb' => by rw [he]; exact hb') ?_
   ·rw [← h6, List.take_take, Nat.min_eq_left (Nat.mul_le_mul_right _ (by omega))]
   ·have h0 := h1 cap h3
    by_cases hc : cap = 0
    ·subst hc
     simp [execOp, Instr.sliceAt, Instr.slice, Instr.sliceBounds, run_underlying (hy.slice hk), he, h0, hz.run_size]
    ·simp [execOp, Instr.sliceAt, Instr.slice, Instr.sliceBounds, run_underlying (hy.slice hk), he, h0, hz.run_size, hc, add_addr]
end
end Go.Proofs.YthjldemjipnmdaaGreatDoor.Sx
namespace Go.Proofs.YthjldemjipnmdaaGreatDoor.Sx
open Go.RowKit
def alFrom (f : Nat → AV) : Nat → Nat → AL
 | _, 0 => .nil
 | i, n + 1 => .cons (f i) (alFrom f (i + 1) n)
def alOf (n : Nat) (f : Nat → AV) : AL := alFrom f 0 n
theorem alFrom_len (f : Nat → AV) : ∀ (n i : Nat), (alFrom f i n).len = n
 | 0, _ => rfl
 | n + 1, i => by unfold alFrom AL.len; rw [alFrom_len f n (i + 1)]
theorem alOf_len (n : Nat) (f : Nat → AV) : (alOf n f).len = n := alFrom_len f n 0
theorem getL_from (f : Nat → AV) : ∀ (n i j : Nat), j < n → getL (alFrom f i n) j = f (i + j)
 | 0, _, _, h => by omega
 | n + 1, i, 0, _ => rfl
 | n + 1, i, j + 1, h => by
  show getL (alFrom f (i + 1) n) j = _
  rw [getL_from f n (i + 1) j (by omega)]
  congr 1
  omega
theorem getL_of {n j : Nat} (f : Nat → AV) (h : j < n) : getL (alOf n f) j = f j := by
 unfold alOf
 rw [getL_from f n 0 j h, Nat.zero_add]
theorem alFrom_congr {f g : Nat → AV} : ∀ (n i : Nat), (∀ j, i ≤ j → j < i + n → f j = g j) → alFrom f i n = alFrom g i n
 | 0, _, _ => rfl
 | n + 1, i, h => by
  unfold alFrom
  rw [h i (Nat.le_refl _) (by omega), alFrom_congr n (i + 1) (fun j h1 h2 => h j (by omega) (by omega))]
theorem alOf_congr {n : Nat} {f g : Nat → AV} (h : ∀ j, j < n → f j = g j) : alOf n f = alOf n g := alFrom_congr n 0 fun j _ hj => h j (by omega)
theorem putL_from (f : Nat → AV) (v : AV) : ∀ (n i j : Nat), j < n → putL (alFrom f i n) j (.cons v .nil) = alFrom (fun k => if k = i + j then v else f k) i n
 | 0, _, _, h => by omega
 | n + 1, i, 0, _ => by
  unfold alFrom
  rw [if_pos (by omega)]
  show AL.cons v (putL (alFrom f (i + 1) n) 0 .nil) = _
  congr 1
  rw [show putL (alFrom f (i + 1) n) 0 .nil = alFrom f (i + 1) n by cases n <;> rfl]
  exact alFrom_congr n (i + 1) fun j h1 _ => by rw [if_neg (by omega)]
 | n + 1, i, j + 1, h => by
  unfold alFrom
  rw [if_neg (by omega)]
  show AL.cons (f i) (putL (alFrom f (i + 1) n) j _) = _
  rw [putL_from f v n (i + 1) j (by omega)]
  congr 1
  exact alFrom_congr n (i + 1) fun k _ _ => by rw [show i + 1 + j = i + (j + 1) by omega]
theorem putL_of {n j : Nat} (f : Nat → AV) (v : AV) (h : j < n) : putL (alOf n f) j (.cons v .nil) = alOf n (fun k => if k = j then v else f k) := by
 unfold alOf
 rw [putL_from f v n 0 j h, Nat.zero_add]
section
variable {P : Program} {F : Fr} {t : Tm} {h : Hp} {d : Option Tmp} {ty : TypeId} {ps : String} {af : Array Edge} {gd : Option (Nat × Bool)}
theorem ok_loadAt (T : Nat) (x : Operand) (g j j' T' n : Nat) (f : Nat → AV) (y : Ty) (hx : ev t x = .ptr g j) (hj : j = j') (hg : getH h g = some (.box T' (alOf n f))) (hy : TyOk P T y) (hs : y.size = 1) (ha : y.isAgg = false) (hb : j' < n) :
  OpWp P F ⟨d, .load T x, ty, ps, af, gd⟩ t h (f j') h := by
 subst hj
 have := ok_load (P := P) (F := F) (t := t) (h := h) (d := d) (ty := ty) (ps := ps) (af := af) (gd := gd) T x (alOf n f) j y (by rw [hx]; unfold derefA; simp only [hg]) (fun g sz i jj e => by rw [hx] at e; cases e) hy (by rw [hs, alOf_len]; omega) (by omega)
 unfold partA at this
 rw [ha] at this
 simp only at this
 rw [getL_of f hb] at this
 exact this
theorem ok_storeAt (T : Nat) (x v : Operand) (g j j' T' n : Nat) (f : Nat → AV) (y : Ty) (a : AV) (hx : ev t x = .ptr g j) (hj : j = j') (hg : getH h g = some (.box T' (alOf n f))) (hv : ev t v = a) (hc : cellsA a = .cons a .nil) (hf : fitA a = true) (hy : TyOk P T y) (hs : y.size = 1) (hb : j' < n) :
  OpWp P F ⟨none, .store T x v, ty, ps, af, gd⟩ t h .any ((g, .box T' (alOf n (fun k => if k = j' then a else f k))) :: h) := by
 subst hj hv
 have := ok_storeBox (P := P) (F := F) (t := t) (h := h) (ty := ty) (ps := ps) (af := af) (gd := gd) T x v g j T' (alOf n f) y hx hg hf hy (by rw [hc, hs]; rfl) (by rw [hs, alOf_len]; omega)
 rw [hc, putL_of f _ hb] at this
 exact this
theorem ok_idxAt (T : Nat) (x ix : Operand) (n e : Nat) (f : Nat → AV) (k : IntKind) (i : Int) (j : Nat) (y z : Ty) (hx : ev t x = .agg (alOf n f)) (hi : ev t ix = .val (.int k i)) (hj : i = (j : Int)) (hy : TyOk P T y) (hk : y.kind = .array n e) (hz : TyOk P e z) (hs : z.size = 1) (ha : z.isAgg = false) (hb : j < n) :
  OpWp P F ⟨d, .index T x ix, ty, ps, af, gd⟩ t h (f j) h :=
 OpWp.pure fun r a w hr ht => by
  subst hj
  have hv := VR_ev ht x
  rw [hx] at hv
  unfold VR at hv
  obtain ⟨A, he, hv⟩ := hv
  obtain ⟨U, h1, _, h2⟩ := hv.get j (by rw [alOf_len]; exact hb)
  rw [Array.getElem?_toList] at h1
  rw [getL_of f hb] at h2
  have hb' : ¬ n ≤ j := by omega
  refine ⟨U, ?_, h2⟩
  simp [execOp, Instr.index, he, VR_val ht hi, asIntOf, run_underlying (hy.array hk), hb', hz.run_size, hs, part, hz.run_isAgg, ha, h1]
end
end Go.Proofs.YthjldemjipnmdaaGreatDoor.Sx
namespace Go.Proofs.YthjldemjipnmdaaGreatDoor.Sx
open Go.RowKit
theorem ent5 : Ent Tryz.prog 5 := Ent.of Tryz.func5 rfl rfl
theorem ent6 : Ent Tryz.prog 6 := Ent.of Tryz.func6 rfl rfl
theorem ent7 : Ent Tryz.prog 7 := Ent.of Tryz.func7 rfl rfl
theorem ent8 : Ent Tryz.prog 8 := Ent.of Tryz.func8 rfl rfl
theorem ent9 : Ent Tryz.prog 9 := Ent.of Tryz.func9 rfl rfl
theorem ent10 : Ent Tryz.prog 10 := Ent.of Tryz.func10 rfl rfl
theorem ent11 : Ent Tryz.prog 11 := Ent.of Tryz.func11 rfl rfl
theorem ent12 : Ent Tryz.prog 12 := Ent.of Tryz.func12 rfl rfl
theorem ent13 : Ent Tryz.prog 13 := Ent.of Tryz.func13 rfl rfl
theorem ent14 : Ent Tryz.prog 14 := Ent.of Tryz.func14 rfl rfl
theorem ent19 : Ent Tryz.prog 19 := Ent.of Tryz.func19 rfl rfl
theorem ent20 : Ent Tryz.prog 20 := Ent.of Tryz.func20 rfl rfl
theorem ent21 : Ent Tryz.prog 21 := Ent.of Tryz.func21 rfl rfl
theorem ent22 : Ent Tryz.prog 22 := Ent.of Tryz.func22 rfl rfl
theorem ent23 : Ent Tryz.prog 23 := Ent.of Tryz.func23 rfl rfl
theorem ent24 : Ent Tryz.prog 24 := Ent.of Tryz.func24 rfl rfl
theorem ent25 : Ent Tryz.prog 25 := Ent.of Tryz.func25 rfl rfl
theorem ent26 : Ent Tryz.prog 26 := Ent.of Tryz.func26 rfl rfl
theorem ent27 : Ent Tryz.prog 27 := Ent.of Tryz.func27 rfl rfl
theorem ent28 : Ent Tryz.prog 28 := Ent.of Tryz.func28 rfl rfl
theorem ent29 : Ent Tryz.prog 29 := Ent.of Tryz.func29 rfl rfl
theorem ent30 : Ent Tryz.prog 30 := Ent.of Tryz.func30 rfl rfl
theorem ent31 : Ent Tryz.prog 31 := Ent.of Tryz.func31 rfl rfl
theorem ent32 : Ent Tryz.prog 32 := Ent.of Tryz.func32 rfl rfl
theorem ent33 : Ent Tryz.prog 33 := Ent.of Tryz.func33 rfl rfl
theorem ent34 : Ent Tryz.prog 34 := Ent.of Tryz.func34 rfl rfl
theorem ent35 : Ent Tryz.prog 35 := Ent.of Tryz.func35 rfl rfl
theorem ent36 : Ent Tryz.prog 36 := Ent.of Tryz.func36 rfl rfl
theorem ent37 : Ent Tryz.prog 37 := Ent.of Tryz.func37 rfl rfl
theorem ent41 : Ent Tryz.prog 41 := Ent.of Tryz.func41 rfl rfl
theorem ent42 : Ent Tryz.prog 42 := Ent.of Tryz.func42 rfl rfl
theorem ent43 : Ent Tryz.prog 43 := Ent.of Tryz.func43 rfl rfl
theorem ent44 : Ent Tryz.prog 44 := Ent.of Tryz.func44 rfl rfl
theorem ent45 : Ent Tryz.prog 45 := Ent.of Tryz.func45 rfl rfl
theorem ent46 : Ent Tryz.prog 46 := Ent.of Tryz.func46 rfl rfl
theorem ent47 : Ent Tryz.prog 47 := Ent.of Tryz.func47 rfl rfl
theorem ent48 : Ent Tryz.prog 48 := Ent.of Tryz.func48 rfl rfl
theorem ent49 : Ent Tryz.prog 49 := Ent.of Tryz.func49 rfl rfl
theorem ent50 : Ent Tryz.prog 50 := Ent.of Tryz.func50 rfl rfl
theorem ent51 : Ent Tryz.prog 51 := Ent.of Tryz.func51 rfl rfl
theorem ent52 : Ent Tryz.prog 52 := Ent.of Tryz.func52 rfl rfl
theorem ent53 : Ent Tryz.prog 53 := Ent.of Tryz.func53 rfl rfl
theorem ent54 : Ent Tryz.prog 54 := Ent.of Tryz.func54 rfl rfl
theorem ent55 : Ent Tryz.prog 55 := Ent.of Tryz.func55 rfl rfl
theorem ent56 : Ent Tryz.prog 56 := Ent.of Tryz.func56 rfl rfl
theorem ent57 : Ent Tryz.prog 57 := Ent.of Tryz.func57 rfl rfl
theorem ent58 : Ent Tryz.prog 58 := Ent.of Tryz.func58 rfl rfl
theorem ent59 : Ent Tryz.prog 59 := Ent.of Tryz.func59 rfl rfl
theorem ent60 : Ent Tryz.prog 60 := Ent.of Tryz.func60 rfl rfl
theorem ent61 : Ent Tryz.prog 61 := Ent.of Tryz.func61 rfl rfl
theorem ent62 : Ent Tryz.prog 62 := Ent.of Tryz.func62 rfl rfl
theorem ent63 : Ent Tryz.prog 63 := Ent.of Tryz.func63 rfl rfl
theorem ent64 : Ent Tryz.prog 64 := Ent.of Tryz.func64 rfl rfl
theorem ent66 : Ent Tryz.prog 66 := Ent.of Tryz.func66 rfl rfl
theorem ent67 : Ent Tryz.prog 67 := Ent.of Tryz.func67 rfl rfl
theorem ent69 : Ent Tryz.prog 69 := Ent.of Tryz.func69 rfl rfl
theorem ent70 : Ent Tryz.prog 70 := Ent.of Tryz.func70 rfl rfl
theorem ent71 : Ent Tryz.prog 71 := Ent.of Tryz.func71 rfl rfl
theorem ent72 : Ent Tryz.prog 72 := Ent.of Tryz.func72 rfl rfl
theorem ent73 : Ent Tryz.prog 73 := Ent.of Tryz.func73 rfl rfl
theorem ent74 : Ent Tryz.prog 74 := Ent.of Tryz.func74 rfl rfl
theorem ent75 : Ent Tryz.prog 75 := Ent.of Tryz.func75 rfl rfl
theorem ent76 : Ent Tryz.prog 76 := Ent.of Tryz.func76 rfl rfl
theorem ent77 : Ent Tryz.prog 77 := Ent.of Tryz.func77 rfl rfl
theorem ent78 : Ent Tryz.prog 78 := Ent.of Tryz.func78 rfl rfl
theorem ent79 : Ent Tryz.prog 79 := Ent.of Tryz.func79 rfl rfl
theorem ent80 : Ent Tryz.prog 80 := Ent.of Tryz.func80 rfl rfl
theorem ent81 : Ent Tryz.prog 81 := Ent.of Tryz.func81 rfl rfl
theorem ent84 : Ent Tryz.prog 84 := Ent.of Tryz.func84 rfl rfl
theorem ent85 : Ent Tryz.prog 85 := Ent.of Tryz.func85 rfl rfl
theorem ent86 : Ent Tryz.prog 86 := Ent.of Tryz.func86 rfl rfl
theorem ent87 : Ent Tryz.prog 87 := Ent.of Tryz.func87 rfl rfl
theorem ent88 : Ent Tryz.prog 88 := Ent.of Tryz.func88 rfl rfl
theorem ent89 : Ent Tryz.prog 89 := Ent.of Tryz.func89 rfl rfl
theorem ent90 : Ent Tryz.prog 90 := Ent.of Tryz.func90 rfl rfl
theorem ent91 : Ent Tryz.prog 91 := Ent.of Tryz.func91 rfl rfl
theorem ent92 : Ent Tryz.prog 92 := Ent.of Tryz.func92 rfl rfl
theorem ent93 : Ent Tryz.prog 93 := Ent.of Tryz.func93 rfl rfl
theorem ent94 : Ent Tryz.prog 94 := Ent.of Tryz.func94 rfl rfl
theorem ent95 : Ent Tryz.prog 95 := Ent.of Tryz.func95 rfl rfl
theorem ent96 : Ent Tryz.prog 96 := Ent.of Tryz.func96 rfl rfl
theorem ent97 : Ent Tryz.prog 97 := Ent.of Tryz.func97 rfl rfl
theorem ent98 : Ent Tryz.prog 98 := Ent.of Tryz.func98 rfl rfl
theorem ent99 : Ent Tryz.prog 99 := Ent.of Tryz.func99 rfl rfl
theorem ent100 : Ent Tryz.prog 100 := Ent.of Tryz.func100 rfl rfl
theorem ent102 : Ent Tryz.prog 102 := Ent.of Tryz.func102 rfl rfl
theorem ent103 : Ent Tryz.prog 103 := Ent.of Tryz.func103 rfl rfl
theorem ent104 : Ent Tryz.prog 104 := Ent.of Tryz.func104 rfl rfl
theorem ent105 : Ent Tryz.prog 105 := Ent.of Tryz.func105 rfl rfl
theorem ent106 : Ent Tryz.prog 106 := Ent.of Tryz.func106 rfl rfl
theorem ent107 : Ent Tryz.prog 107 := Ent.of Tryz.func107 rfl rfl
theorem ent110 : Ent Tryz.prog 110 := Ent.of Tryz.func110 rfl rfl
theorem ent111 : Ent Tryz.prog 111 := Ent.of Tryz.func111 rfl rfl
theorem ent112 : Ent Tryz.prog 112 := Ent.of Tryz.func112 rfl rfl
theorem ent113 : Ent Tryz.prog 113 := Ent.of Tryz.func113 rfl rfl
theorem ent114 : Ent Tryz.prog 114 := Ent.of Tryz.func114 rfl rfl
theorem ent115 : Ent Tryz.prog 115 := Ent.of Tryz.func115 rfl rfl
theorem ent116 : Ent Tryz.prog 116 := Ent.of Tryz.func116 rfl rfl
theorem ent117 : Ent Tryz.prog 117 := Ent.of Tryz.func117 rfl rfl
theorem ent118 : Ent Tryz.prog 118 := Ent.of Tryz.func118 rfl rfl
theorem ent119 : Ent Tryz.prog 119 := Ent.of Tryz.func119 rfl rfl
theorem ent120 : Ent Tryz.prog 120 := Ent.of Tryz.func120 rfl rfl
theorem ent121 : Ent Tryz.prog 121 := Ent.of Tryz.func121 rfl rfl
theorem ent122 : Ent Tryz.prog 122 := Ent.of Tryz.func122 rfl rfl
theorem ent123 : Ent Tryz.prog 123 := Ent.of Tryz.func123 rfl rfl
theorem ent124 : Ent Tryz.prog 124 := Ent.of Tryz.func124 rfl rfl
theorem ent125 : Ent Tryz.prog 125 := Ent.of Tryz.func125 rfl rfl
theorem ent126 : Ent Tryz.prog 126 := Ent.of Tryz.func126 rfl rfl
theorem ent127 : Ent Tryz.prog 127 := Ent.of Tryz.func127 rfl rfl
theorem ent128 : Ent Tryz.prog 128 := Ent.of Tryz.func128 rfl rfl
theorem ent129 : Ent Tryz.prog 129 := Ent.of Tryz.func129 rfl rfl
theorem ent130 : Ent Tryz.prog 130 := Ent.of Tryz.func130 rfl rfl
theorem ent135 : Ent Tryz.prog 135 := Ent.of Tryz.func135 rfl rfl
theorem ent136 : Ent Tryz.prog 136 := Ent.of Tryz.func136 rfl rfl
theorem ent138 : Ent Tryz.prog 138 := Ent.of Tryz.func138 rfl rfl
theorem ent139 : Ent Tryz.prog 139 := Ent.of Tryz.func139 rfl rfl
theorem ent140 : Ent Tryz.prog 140 := Ent.of Tryz.func140 rfl rfl
theorem ent141 : Ent Tryz.prog 141 := Ent.of Tryz.func141 rfl rfl
theorem ent142 : Ent Tryz.prog 142 := Ent.of Tryz.func142 rfl rfl
theorem ent143 : Ent Tryz.prog 143 := Ent.of Tryz.func143 rfl rfl
theorem ent144 : Ent Tryz.prog 144 := Ent.of Tryz.func144 rfl rfl
theorem ent145 : Ent Tryz.prog 145 := Ent.of Tryz.func145 rfl rfl
theorem ent146 : Ent Tryz.prog 146 := Ent.of Tryz.func146 rfl rfl
theorem ent147 : Ent Tryz.prog 147 := Ent.of Tryz.func147 rfl rfl
theorem ent148 : Ent Tryz.prog 148 := Ent.of Tryz.func148 rfl rfl
theorem ent151 : Ent Tryz.prog 151 := Ent.of Tryz.func151 rfl rfl
theorem ent153 : Ent Tryz.prog 153 := Ent.of Tryz.func153 rfl rfl
theorem ent154 : Ent Tryz.prog 154 := Ent.of Tryz.func154 rfl rfl
theorem ent155 : Ent Tryz.prog 155 := Ent.of Tryz.func155 rfl rfl
theorem ent156 : Ent Tryz.prog 156 := Ent.of Tryz.func156 rfl rfl
theorem ent157 : Ent Tryz.prog 157 := Ent.of Tryz.func157 rfl rfl
theorem ent158 : Ent Tryz.prog 158 := Ent.of Tryz.func158 rfl rfl
theorem ent159 : Ent Tryz.prog 159 := Ent.of Tryz.func159 rfl rfl
theorem ent160 : Ent Tryz.prog 160 := Ent.of Tryz.func160 rfl rfl
theorem ent161 : Ent Tryz.prog 161 := Ent.of Tryz.func161 rfl rfl
theorem ent162 : Ent Tryz.prog 162 := Ent.of Tryz.func162 rfl rfl
theorem ent163 : Ent Tryz.prog 163 := Ent.of Tryz.func163 rfl rfl
theorem ent164 : Ent Tryz.prog 164 := Ent.of Tryz.func164 rfl rfl
theorem ent165 : Ent Tryz.prog 165 := Ent.of Tryz.func165 rfl rfl
theorem ent166 : Ent Tryz.prog 166 := Ent.of Tryz.func166 rfl rfl
theorem ent167 : Ent Tryz.prog 167 := Ent.of Tryz.func167 rfl rfl
theorem ent172 : Ent Tryz.prog 172 := Ent.of Tryz.func172 rfl rfl
theorem ent173 : Ent Tryz.prog 173 := Ent.of Tryz.func173 rfl rfl
theorem ent174 : Ent Tryz.prog 174 := Ent.of Tryz.func174 rfl rfl
theorem ent178 : Ent Tryz.prog 178 := Ent.of Tryz.func178 rfl rfl
theorem ent179 : Ent Tryz.prog 179 := Ent.of Tryz.func179 rfl rfl
theorem ent186 : Ent Tryz.prog 186 := Ent.of Tryz.func186 rfl rfl
theorem ent187 : Ent Tryz.prog 187 := Ent.of Tryz.func187 rfl rfl
theorem ent190 : Ent Tryz.prog 190 := Ent.of Tryz.func190 rfl rfl
theorem ent191 : Ent Tryz.prog 191 := Ent.of Tryz.func191 rfl rfl
theorem ent192 : Ent Tryz.prog 192 := Ent.of Tryz.func192 rfl rfl
theorem ent194 : Ent Tryz.prog 194 := Ent.of Tryz.func194 rfl rfl
theorem ent196 : Ent Tryz.prog 196 := Ent.of Tryz.func196 rfl rfl
theorem ent200 : Ent Tryz.prog 200 := Ent.of Tryz.func200 rfl rfl
theorem ent201 : Ent Tryz.prog 201 := Ent.of Tryz.func201 rfl rfl
theorem ent206 : Ent Tryz.prog 206 := Ent.of Tryz.func206 rfl rfl
theorem ent207 : Ent Tryz.prog 207 := Ent.of Tryz.func207 rfl rfl
theorem ent208 : Ent Tryz.prog 208 := Ent.of Tryz.func208 rfl rfl
theorem ent209 : Ent Tryz.prog 209 := Ent.of Tryz.func209 rfl rfl
theorem ent210 : Ent Tryz.prog 210 := Ent.of Tryz.func210 rfl rfl
theorem ent211 : Ent Tryz.prog 211 := Ent.of Tryz.func211 rfl rfl
theorem ent212 : Ent Tryz.prog 212 := Ent.of Tryz.func212 rfl rfl
theorem ent213 : Ent Tryz.prog 213 := Ent.of Tryz.func213 rfl rfl
theorem ent214 : Ent Tryz.prog 214 := Ent.of Tryz.func214 rfl rfl
theorem ent215 : Ent Tryz.prog 215 := Ent.of Tryz.func215 rfl rfl
theorem ent216 : Ent Tryz.prog 216 := Ent.of Tryz.func216 rfl rfl
theorem ent217 : Ent Tryz.prog 217 := Ent.of Tryz.func217 rfl rfl
theorem ent219 : Ent Tryz.prog 219 := Ent.of Tryz.func219 rfl rfl
theorem ent228 : Ent Tryz.prog 228 := Ent.of Tryz.func228 rfl rfl
theorem ent229 : Ent Tryz.prog 229 := Ent.of Tryz.func229 rfl rfl
theorem ent230 : Ent Tryz.prog 230 := Ent.of Tryz.func230 rfl rfl
theorem ent236 : Ent Tryz.prog 236 := Ent.of Tryz.func236 rfl rfl
theorem ent237 : Ent Tryz.prog 237 := Ent.of Tryz.func237 rfl rfl
theorem ent238 : Ent Tryz.prog 238 := Ent.of Tryz.func238 rfl rfl
theorem ent239 : Ent Tryz.prog 239 := Ent.of Tryz.func239 rfl rfl
theorem ent240 : Ent Tryz.prog 240 := Ent.of Tryz.func240 rfl rfl
theorem ent241 : Ent Tryz.prog 241 := Ent.of Tryz.func241 rfl rfl
theorem ent242 : Ent Tryz.prog 242 := Ent.of Tryz.func242 rfl rfl
theorem ent243 : Ent Tryz.prog 243 := Ent.of Tryz.func243 rfl rfl
theorem ent244 : Ent Tryz.prog 244 := Ent.of Tryz.func244 rfl rfl
theorem ent245 : Ent Tryz.prog 245 := Ent.of Tryz.func245 rfl rfl
theorem ent246 : Ent Tryz.prog 246 := Ent.of Tryz.func246 rfl rfl
theorem ent247 : Ent Tryz.prog 247 := Ent.of Tryz.func247 rfl rfl
theorem ent248 : Ent Tryz.prog 248 := Ent.of Tryz.func248 rfl rfl
theorem ent253 : Ent Tryz.prog 253 := Ent.of Tryz.func253 rfl rfl
theorem ent256 : Ent Tryz.prog 256 := Ent.of Tryz.func256 rfl rfl
theorem ent257 : Ent Tryz.prog 257 := Ent.of Tryz.func257 rfl rfl
theorem ent258 : Ent Tryz.prog 258 := Ent.of Tryz.func258 rfl rfl
end Go.Proofs.YthjldemjipnmdaaGreatDoor.Sx
namespace Go.Proofs.YthjldemjipnmdaaGreatDoor.Sx
open Go.RowKit
set_option maxRecDepth 100000
theorem tdiv_lo {a b : Int} (hb : 0 < b) (h : a.tmod b < 0) : a.tdiv b - 1 = a / b ∧ a.tmod b + b = a % b := by
 have h1 := Int.mul_tdiv_add_tmod a b
 have h2 := Int.tmod_lt_of_pos a hb
 have h3 : -b < a.tmod b := by
  have := Int.tmod_lt_of_pos (-a) hb
  rw [Int.neg_tmod] at this
  omega
 have := Int.ediv_emod_unique hb (a := a) (r := a.tmod b + b) (q := a.tdiv b - 1)
 have h4 := this.2 ⟨by rw [Int.mul_sub, Int.mul_one]; omega, by omega, by omega⟩
 exact ⟨h4.1.symm, h4.2.symm⟩
theorem tdiv_hi {a b : Int} (hb : 0 < b) (h : ¬ a.tmod b < 0) : a.tdiv b = a / b ∧ a.tmod b = a % b := by
 have h1 := Int.mul_tdiv_add_tmod a b
 have h2 := Int.tmod_lt_of_pos a hb
 have := Int.ediv_emod_unique hb (a := a) (r := a.tmod b) (q := a.tdiv b)
 have h4 := this.2 ⟨by omega, by omega, by omega⟩
 exact ⟨h4.1.symm, h4.2.symm⟩
theorem ediv_i64 {a b : Int} (ha : i64B a) (hb : 0 < b) : i64B (a / b) := by
 have h1 := Int.ediv_le_ediv hb (show a ≤ 9223372036854775807 by omega)
 have h2 := Int.ediv_le_self (a := 9223372036854775807) b (by omega)
 have h3 : -9223372036854775808 ≤ a / b := by
  rw [Int.le_ediv_iff_mul_le hb]
  have : -9223372036854775808 * b ≤ -9223372036854775808 * 1 := Int.mul_le_mul_of_nonpos_left (by omega) (by omega)
  omega
 omega
theorem numDiv_ac (a b : Int) (ha : i64B a) (hb : 0 < b) (hb2 : i64B b) : AC Tryz.prog 81 (.cons (.val (.int .i64 a)) (.cons (.val (.int .i64 b)) .nil)) (.tup (.cons (.val (.int .i64 (a / b))) (.cons (.val (.int .i64 (a % b))) (.cons (.val (.bool true)) .nil)))) := by
 have hq := ediv_i64 ha hb
 have hr1 := Int.emod_nonneg a (show b ≠ 0 by omega)
 have hr2 := Int.emod_lt_of_pos a hb
 refine AC.enter Tryz.func81 Tryz.ntmps81 rfl rfl rfl (fun F hX => ?_)
 repeat' (first | refine st0 tab_ok rfl ?_ | refine st1 tab_ok rfl (by omega) ?_ | refine gT rfl rfl (by omega) ?_ | refine gF rfl rfl (by omega) ?_)
 refine dg_start ?_
 refine dg0 tab_ok rfl ?_
 refine dg0 tab_ok rfl ?_
 refine dg_by rfl (fun h => ok_quoS .quo _ _ _ _ a b _ rfl rfl rfl hb ha) rfl ?_
 refine dg0 tab_ok rfl ?_
 refine dg0 tab_ok rfl ?_
 refine dg_by rfl (fun h => ok_quoS .rem _ _ _ _ a b _ rfl rfl rfl hb ha) rfl ?_
 refine dg0 tab_ok rfl ?_
 refine dg0 tab_ok rfl ?_
 refine dg_end mixed rfl ?_
 repeat' (first | refine st0 tab_ok rfl ?_ | refine gS rfl rfl (fun h => ?_) (fun h => ?_))
 ·obtain ⟨h1, h2⟩ := tdiv_lo hb h
  repeat' (first | refine st0 tab_ok rfl ?_ | refine st1 tab_ok rfl (by omega) ?_ | refine good_ret tab_ok hX rfl (Sub.of_eq ?_))
  all_goals simp [h1, h2]
 ·obtain ⟨h1, h2⟩ := tdiv_hi hb h
  repeat' (first | refine st0 tab_ok rfl ?_ | refine good_ret tab_ok hX rfl (Sub.of_eq ?_))
  all_goals simp [h1, h2]
end Go.Proofs.YthjldemjipnmdaaGreatDoor.Sx
namespace Go.Proofs.YthjldemjipnmdaaGreatDoor.Sx
open Go.RowKit
set_option maxRecDepth 100000
abbrev I (n : Int) : AV := .val (.int .i64 n)
abbrev B (b : Bool) : AV := .val (.bool b)
abbrev S (s : ByteArray) : AV := .val (.string s)
abbrev L1 (x : AV) : AL := .cons x .nil
abbrev L2 (x y : AV) : AL := .cons x (.cons y .nil)
abbrev L3 (x y z : AV) : AL := .cons x (.cons y (.cons z .nil))
abbrev L4 (x y z u : AV) : AL := .cons x (.cons y (.cons z (.cons u .nil)))
def leapB (y : Int) : Bool := decide (y % 4 = 0) && (!decide (y % 100 = 0) || decide (y % 400 = 0))
def mtab : List Int := [31, 28, 31, 30, 31, 30, 31, 31, 30, 31, 30, 31]
def lastD (y m : Int) : Int := mtab.getD (m - 1).toNat 0 + (if m = 2 ∧ leapB y = true then 1 else 0)
theorem mtab_bd {m : Int} (h : 1 ≤ m ∧ m ≤ 12) : 28 ≤ mtab.getD (m - 1).toNat 0 ∧ mtab.getD (m - 1).toNat 0 ≤ 31 := by
 obtain h : m = 1 ∨ m = 2 ∨ m = 3 ∨ m = 4 ∨ m = 5 ∨ m = 6 ∨ m = 7 ∨ m = 8 ∨ m = 9 ∨ m = 10 ∨ m = 11 ∨ m = 12 := by omega
 rcases h with rfl | rfl | rfl | rfl | rfl | rfl | rfl | rfl | rfl | rfl | rfl | rfl <;> decide
theorem leap_ac (y : Int) (hy : 0 ≤ y ∧ y ≤ 10000) : AC Tryz.prog 208 (L1 (I y)) (B (leapB y)) := by
 refine AC.enter Tryz.func208 Tryz.ntmps208 rfl rfl rfl (fun F hX => ?_)
 repeat' (first | refine stp tab_ok rfl (by first | exact sideN | exact sideT (by omega)) ?_ | refine gT rfl rfl (by omega) ?_ | refine gF rfl rfl (by omega) ?_ | refine gNT rfl rfl (by omega) ?_ | refine gNF rfl rfl (by omega) ?_ | refine gS rfl rfl (fun _ => ?_) (fun _ => ?_) | refine gNS rfl rfl (fun _ => ?_) (fun _ => ?_) | refine gBS rfl rfl (fun _ => ?_) (fun _ => ?_) | refine gBN rfl rfl (fun _ => ?_) (fun _ => ?_) | refine good_ret tab_ok hX rfl (Sub.of_eq ?_) | refine good_end tab_ok hX rfl (Sub.of_eq ?_) | fail)
 all_goals simp [leapB, *]
theorem lastD_bd {y m : Int} (h : 1 ≤ m ∧ m ≤ 12) : 28 ≤ lastD y m ∧ lastD y m ≤ 32 := by
 have := mtab_bd h
 unfold lastD
 split <;> omega
theorem last_ac (y m : Int) (hy : 1 ≤ y ∧ y ≤ 9999) (hm : 1 ≤ m ∧ m ≤ 12) : AC Tryz.prog 156 (L2 (I y) (I m)) (.tup (L2 (I (lastD y m)) (B true))) := by
 have hb : 28 ≤ [31, 28, 31, 30, 31, 30, 31, 31, 30, 31, 30, 31].getD (m - 1).toNat (0 : Int) ∧ [31, 28, 31, 30, 31, 30, 31, 31, 30, 31, 30, 31].getD (m - 1).toNat (0 : Int) ≤ 31 := mtab_bd hm
 refine AC.enter Tryz.func156 Tryz.ntmps156 rfl rfl rfl (fun F hX => ?_)
 repeat' (first | refine stp tab_ok rfl (by first | exact sideN | exact sideT (by omega)) ?_ | refine gT rfl rfl (by omega) ?_ | refine gF rfl rfl (by omega) ?_ | refine gNT rfl rfl (by omega) ?_ | refine gNF rfl rfl (by omega) ?_ | fail)
 refine gS rfl rfl (fun h2 => ?_) (fun h2 => ?_)
 ·repeat' (first | refine stp tab_ok rfl (by first | exact sideN | exact sideT (by omega)) ?_ | refine gT rfl rfl (by omega) ?_ | refine gF rfl rfl (by omega) ?_ | refine gNT rfl rfl (by omega) ?_ | refine gNF rfl rfl (by omega) ?_ | fail)
  refine good_callG rfl rfl rfl rfl rfl rfl rfl rfl rfl ent208 (leap_ac _ (by omega)) rfl ?_
  repeat' (first | refine stp tab_ok rfl (by first | exact sideN | exact sideT (by omega)) ?_ | refine gT rfl rfl (by omega) ?_ | refine gF rfl rfl (by omega) ?_ | refine gNT rfl rfl (by omega) ?_ | refine gNF rfl rfl (by omega) ?_ | fail)
  refine gBS rfl rfl (fun hl => ?_) (fun hl => ?_)
  ·repeat' (first | refine stp tab_ok rfl (by first | exact sideN | exact sideT (by omega)) ?_ | refine gT rfl rfl (by omega) ?_ | refine gF rfl rfl (by omega) ?_ | refine gNT rfl rfl (by omega) ?_ | refine gNF rfl rfl (by omega) ?_ | refine gS rfl rfl (fun _ => ?_) (fun _ => ?_) | refine gNS rfl rfl (fun _ => ?_) (fun _ => ?_) | refine gBS rfl rfl (fun _ => ?_) (fun _ => ?_) | refine gBN rfl rfl (fun _ => ?_) (fun _ => ?_) | refine good_ret tab_ok hX rfl (Sub.of_eq ?_) | refine good_end tab_ok hX rfl (Sub.of_eq ?_) | fail)
   all_goals simp [lastD, h2, hl, mtab]
  ·repeat' (first | refine stp tab_ok rfl (by first | exact sideN | exact sideT (by omega)) ?_ | refine gT rfl rfl (by omega) ?_ | refine gF rfl rfl (by omega) ?_ | refine gNT rfl rfl (by omega) ?_ | refine gNF rfl rfl (by omega) ?_ | refine gS rfl rfl (fun _ => ?_) (fun _ => ?_) | refine gNS rfl rfl (fun _ => ?_) (fun _ => ?_) | refine gBS rfl rfl (fun _ => ?_) (fun _ => ?_) | refine gBN rfl rfl (fun _ => ?_) (fun _ => ?_) | refine good_ret tab_ok hX rfl (Sub.of_eq ?_) | refine good_end tab_ok hX rfl (Sub.of_eq ?_) | fail)
   all_goals simp [lastD, h2, hl, mtab]
 ·repeat' (first | refine stp tab_ok rfl (by first | exact sideN | exact sideT (by omega)) ?_ | refine gT rfl rfl (by omega) ?_ | refine gF rfl rfl (by omega) ?_ | refine gNT rfl rfl (by omega) ?_ | refine gNF rfl rfl (by omega) ?_ | refine gS rfl rfl (fun _ => ?_) (fun _ => ?_) | refine gNS rfl rfl (fun _ => ?_) (fun _ => ?_) | refine gBS rfl rfl (fun _ => ?_) (fun _ => ?_) | refine gBN rfl rfl (fun _ => ?_) (fun _ => ?_) | refine good_ret tab_ok hX rfl (Sub.of_eq ?_) | refine good_end tab_ok hX rfl (Sub.of_eq ?_) | fail)
  all_goals simp [lastD, h2, mtab]
def eraOf (n : Int) : Int := (n + 719468) / 146097
def doe (n : Int) : Int := (n + 719468) % 146097
def yoe (o : Int) : Int := (o - o / 1460 + o / 36524 - o / 146096) / 365
def doy (o : Int) : Int := o - (365 * yoe o + yoe o / 4 - yoe o / 100)
def mp (o : Int) : Int := (5 * doy o + 2) / 153
def dateY (n : Int) : Int := 400 * eraOf n + yoe (doe n) + (if 12 < mp (doe n) + 3 then 1 else 0)
def dateM (n : Int) : Int := if 12 < mp (doe n) + 3 then mp (doe n) + 3 - 12 else mp (doe n) + 3
def dateD (n : Int) : Int := doy (doe n) - (153 * mp (doe n) + 2) / 5 + 1
theorem doe_bd (n : Int) : 0 ≤ doe n ∧ doe n < 146097 := by unfold doe; omega
theorem date_ac (n : Int) (hn : -719162 ≤ n ∧ n ≤ 2932896) (hy : 0 ≤ yoe (doe n) ∧ yoe (doe n) ≤ 399 ∧ 0 ≤ doy (doe n) ∧ doy (doe n) ≤ 366) : AC Tryz.prog 72 (L1 (I n)) (.tup (L4 (I (dateY n)) (I (dateM n)) (I (dateD n)) (B true))) := by
 refine AC.enter Tryz.func72 Tryz.ntmps72 rfl rfl rfl (fun F hX => ?_)
 repeat' (first | refine stp tab_ok rfl (by first | exact sideN | exact sideT (by omega)) ?_ | refine gT rfl rfl (by omega) ?_ | refine gF rfl rfl (by omega) ?_ | refine gNT rfl rfl (by omega) ?_ | refine gNF rfl rfl (by omega) ?_ | fail)
 refine good_call rfl rfl rfl rfl rfl ent81 (numDiv_ac _ _ (by omega) (by omega) (by omega)) rfl ?_
 have h0 := doe_bd n
 have h1 : 0 ≤ eraOf n ∧ eraOf n ≤ 25 := by unfold eraOf; omega
 rw [show (n + 719468) / 146097 = eraOf n from rfl, show (n + 719468) % 146097 = doe n from rfl]
 unfold dateY dateM dateD mp
 generalize eraOf n = e at *
 generalize doe n = o at *
 unfold doy at *
 unfold yoe at *
 repeat' (first | refine stp tab_ok rfl (by first | exact sideN | exact sideT (by omega)) ?_ | refine gT rfl rfl (by omega) ?_ | refine gF rfl rfl (by omega) ?_ | refine gNT rfl rfl (by omega) ?_ | refine gNF rfl rfl (by omega) ?_ | refine gS rfl rfl (fun _ => ?_) (fun _ => ?_) | refine gNS rfl rfl (fun _ => ?_) (fun _ => ?_) | refine gBS rfl rfl (fun _ => ?_) (fun _ => ?_) | refine gBN rfl rfl (fun _ => ?_) (fun _ => ?_) | refine good_ret tab_ok hX rfl (Sub.of_eq ?_) | refine good_end tab_ok hX rfl (Sub.of_eq ?_) | fail)
 ·rename_i h12
  simp only [if_pos h12, AV.tup.injEq, AL.cons.injEq, AV.val.injEq, Value.int.injEq, true_and, and_true]
  omega
 ·rename_i h12
  simp only [if_neg h12, AV.tup.injEq, AL.cons.injEq, AV.val.injEq, Value.int.injEq, true_and, and_true]
  omega
end Go.Proofs.YthjldemjipnmdaaGreatDoor.Sx
namespace Go.Proofs.YthjldemjipnmdaaGreatDoor.Sx
open Go.RowKit
set_option maxRecDepth 100000
theorem vals_inv {w : World} {r : Rho} {M : Cond} {one : Bool} : ∀ {Us Vs : List Value}, VRL w (valsL Us) one r M Vs → Vs = Us
 | [], [], _ => rfl
 | [], _ :: _, h => by unfold valsL VRL at h; exact h.elim
 | _ :: _, [], h => by unfold valsL VRL at h; exact h.elim
 | U :: Us, V :: Vs, h => by
  unfold valsL VRL at h
  have h1 := h.2.1
  unfold VR at h1
  rw [h1, vals_inv h.2.2]
theorem ac_of {P : Program} {f : Nat} {args : AL} {res : AV} (Us : List Value) (ha : args = valsL Us) (H : ∀ w, Gl w → Calls P f Us.toArray w (fun e w' => ∃ V, e = .returned V ∧ (∀ M, VR w' res r0 M V) ∧ Below w.heap.size w w')) : AC P f args res := by
 subst ha
 intro w M Vs hM hv
 rw [vals_inv hv]
 exact (H w hM.2).mono fun _ _ ⟨V, e, h1, h2⟩ => ⟨V, e, h1 M, h2⟩
theorem vr_tups {w : World} {r : Rho} {M : Cond} (Us : List Value) : VR w (.tup (valsL Us)) r M (.tuple Us.toArray) := by
 unfold VR
 exact ⟨_, rfl, vrl_vals _ rfl⟩
theorem glob3 : Tryz.prog.globalNamed "internal/strconv.uint64pow10" = some 3 := by kernel_rfl
theorem Gl.tab {w : World} (h : Gl w) : Lib.TabIs Tryz.prog w "internal/strconv.uint64pow10" .u64 Lib.pow10Tab := by
 obtain ⟨_, T, fz, h⟩ := h
 unfold Lib.TabIs World.var?
 rw [glob3]
 simp only [Option.bind_some, h, Lib.pow10Tab, List.map_map]
 rfl
theorem below_eq {w w' : World} (h : w' = w) : Below w.heap.size w w' := h ▸ Below.refl _ _
theorem hasPrefix_ac (s p : ByteArray) : AC Tryz.prog 146 (L2 (S s) (S p)) (B (Lib.hasPrefix s.data.toList p.data.toList)) :=
 ac_of [.string s, .string p] rfl fun w _ => (Tryz.strings_HasPrefix s p w).mono fun _ _ ⟨e, h⟩ => ⟨_, e, fun _ => vr_val, below_eq h⟩
theorem trimPrefix_ac (s p : ByteArray) : AC Tryz.prog 244 (L2 (S s) (S p)) (S ⟨(Lib.trimPrefix s.data.toList p.data.toList).toArray⟩) :=
 ac_of [.string s, .string p] rfl fun w _ => (Tryz.strings_TrimPrefix s p w).mono fun _ _ ⟨e, h⟩ => ⟨_, e, fun _ => vr_val, below_eq h⟩
theorem trimSuffix_ac (s p : ByteArray) (hs : s.size ≤ 1000000000) : AC Tryz.prog 99 (L2 (S s) (S p)) (S ⟨(Lib.trimSuffix s.data.toList p.data.toList).toArray⟩) :=
 ac_of [.string s, .string p] rfl fun w _ => (Tryz.strings_TrimSuffix s p w (by omega)).mono fun _ _ ⟨e, h⟩ => ⟨_, e, fun _ => vr_val, below_eq h⟩
theorem cutPrefix_ac (s p : ByteArray) : AC Tryz.prog 121 (L2 (S s) (S p)) (.tup (L2 (S ⟨(Lib.trimPrefix s.data.toList p.data.toList).toArray⟩) (B (Lib.hasPrefix s.data.toList p.data.toList)))) :=
 ac_of [.string s, .string p] rfl fun w _ => (Tryz.strings_CutPrefix s p w).mono fun _ _ ⟨e, h⟩ => ⟨_, e, fun _ => vr_tups [_, _], below_eq h⟩
theorem cutSuffix_ac (s p : ByteArray) (hs : s.size ≤ 1000000000) : AC Tryz.prog 122 (L2 (S s) (S p)) (.tup (L2 (S ⟨(Lib.trimSuffix s.data.toList p.data.toList).toArray⟩) (B (Lib.hasSuffix s.data.toList p.data.toList)))) :=
 ac_of [.string s, .string p] rfl fun w _ => (Tryz.strings_CutSuffix s p w (by omega)).mono fun _ _ ⟨e, h⟩ => ⟨_, e, fun _ => vr_tups [_, _], below_eq h⟩
theorem contains1_ac (s : ByteArray) (c : UInt8) : AC Tryz.prog 123 (L2 (S s) (S ⟨#[c]⟩)) (B (decide (0 ≤ Lib.indexByte s.data.toList c))) :=
 ac_of [.string s, .string ⟨#[c]⟩] rfl fun w _ => (Tryz.strings_Contains_one s c w).mono fun _ _ ⟨e, h⟩ => ⟨_, e, fun _ => vr_val, below_eq h⟩
theorem cut_ac (s p : ByteArray) (hs : s.size ≤ 1000000000) : AC Tryz.prog 51 (L2 (S s) (S p)) (.tup (L3 (S ⟨(Lib.cut s.data.toList p.data.toList).1.toArray⟩) (S ⟨(Lib.cut s.data.toList p.data.toList).2.1.toArray⟩) (B (Lib.cut s.data.toList p.data.toList).2.2))) :=
 ac_of [.string s, .string p] rfl fun w hg => (Tryz.strings_Cut s p hg.1.choose w (by omega) hg.1.choose_spec).mono fun _ _ ⟨e, n, h⟩ => ⟨_, e, fun _ => vr_tups [_, _, _], by
  subst h
  exact ⟨rfl, rfl, rfl, Nat.le_refl _, fun _ _ => rfl⟩⟩
theorem atoi_ac (s : ByteArray) (n : Int) (hs : s.size ≤ 18) (h : Lib.atoi s.data.toList = some n) : AC Tryz.prog 246 (L1 (S s)) (.tup (L2 (I n) (.val .nilIface))) :=
 ac_of [.string s] rfl fun w _ => (Tryz.strconv_Atoi s n hs h w).mono fun _ _ ⟨e, t, h⟩ => ⟨_, e, fun _ => vr_tups [_, _], by
  subst h
  exact ⟨rfl, rfl, rfl, by rw [Lib.bytesWorld_size]; omega, fun j hj => Lib.bytesWorld_at_old w _ t j hj⟩⟩
theorem itoa_ac (n : Int) (hn : -9223372036854775808 ≤ n ∧ n ≤ 9223372036854775807) : AC Tryz.prog 27 (L1 (I n)) (S ⟨(Lib.itoa n).toArray⟩) :=
 ac_of [.int .i64 n] rfl fun w hg => (Tryz.strconv_Itoa n hn.1 hn.2 w hg.tab).mono fun _ _ ⟨e, k, os, h⟩ => ⟨_, e, fun _ => vr_val, by
  subst h
  exact ⟨rfl, rfl, rfl, (by show _ ≤ (w.heap ++ os).size; rw [Array.size_append]; omega), fun j hj => (by show (w.heap ++ os)[j]? = _; rw [Array.getElem?_append_left hj])⟩⟩
theorem mul64_ac (x y : Nat) (hx : x < 18446744073709551616) (hy : y < 18446744073709551616) : AC Tryz.prog 143 (L2 (.val (.int .u64 x)) (.val (.int .u64 y))) (.tup (L2 (.val (.int .u64 ((x * y / 18446744073709551616 : Nat) : Int))) (.val (.int .u64 ((x * y % 18446744073709551616 : Nat) : Int))))) :=
 ac_of [.int .u64 x, .int .u64 y] rfl fun w _ => (Tryz.bits_Mul64 x y hx hy w).mono fun _ _ ⟨e, h⟩ => ⟨_, e, fun _ => vr_tups [_, _], below_eq h⟩
def strEls (xs : List ByteArray) : Nat → AL := fun i => L1 (S (xs.getD i ByteArray.empty))
theorem split_oc (s sep : ByteArray) (hs : s.size ≤ 1000000000) (h1 : 1 ≤ sep.size) : OC Tryz.prog 98 (L2 (S s) (S sep)) 9 1 (Lib.countB s sep + 1) (strEls (Lib.splitB sep 0 (Lib.countB s sep) s)) := by
 intro w M Vs hM hv
 have hle := Lib.countB_le sep h1 s.size s (Nat.le_refl _)
 have hlen := Lib.splitB_all sep h1 0 _ s rfl
 rw [vals_inv (Us := [.string s, .string sep]) hv]
 refine (Tryz.strings_Split s sep hM.2.1.choose w (by omega) hM.2.1.choose_spec h1).mono ?_
 generalize Lib.splitB sep 0 (Lib.countB s sep) s = ps at *
 generalize Lib.countB s sep = c at *
 rintro _ w' ⟨rfl, rfl⟩
 refine ⟨_, rfl, fun b hb => (by cases hb; exact Nat.le_refl _), ⟨_, _, _, rfl⟩, ⟨ps.map Value.string, ⟨by simp [hlen], .inr ⟨w.heap.size, c + 1, (ps.map Value.string).toArray, 9, (0, 0), rfl, .inl ⟨rfl, rfl⟩, heap_alloc_new w _, Nat.le_refl _, by unfold maxLen; omega, by simp [hlen], by simp [hlen, List.take_of_length_le]⟩⟩, fun i hi => ?_⟩, below_allocW w _⟩
 refine ⟨[.string (ps.getD i ByteArray.empty)], fun j U hj => ?_, rfl, ?_⟩
 ·cases j with
  | succ j => simp at hj
  | zero =>
   simp only [List.getElem?_cons_zero, Option.some.injEq] at hj
   subst hj
   have : i < ps.length := by omega
   simp [List.getD, this]
 ·unfold strEls VRL VRL
  exact ⟨fun _ => rfl, vr_val, trivial⟩
theorem join_ac (xs : List ByteArray) (sep : ByteArray) (n : Nat) (els : Nat → AL) (hn : n = xs.length) (he : ∀ i, i < n → els i = strEls xs i) (hlen : (Lib.join (xs.map (·.data.toList)) sep.data.toList).length ≤ 1000000000) (hx : xs.length ≤ 1000000000) :
  AC Tryz.prog 71 (L2 (.im 1 n els) (S sep)) (S ⟨(Lib.join (xs.map (·.data.toList)) sep.data.toList).toArray⟩) := by
 intro w M Vs hM hv
 match Vs, hv with
 | [], hv => unfold VRL at hv; exact hv.elim
 | [_], hv => unfold VRL VRL at hv; exact hv.2.2.elim
 | _ :: _ :: _ :: _, hv => unfold VRL VRL VRL at hv; exact hv.2.2.2.2.elim
 | [V, U], hv =>
  unfold VRL VRL at hv
  obtain ⟨_, h1, _, h2, _⟩ := hv
  unfold VR at h1 h2
  subst h2
  rcases h1 with ⟨h0, rfl⟩ | ⟨b, off, cap, rfl, hc, hb, _, hel⟩
  ·have : xs = [] := List.eq_nil_of_length_eq_zero (by omega)
   subst this
   refine (Tryz.strings_Join_none none 0 sep w).mono ?_
   rintro _ w' ⟨rfl, rfl⟩
   exact ⟨_, rfl, vr_val, Below.refl _ _⟩
  ·subst hn
   refine (Tryz.strings_Join b off cap xs sep w (fun j x hj => ?_) hb (by omega) hc (by omega)).mono ?_
   ·have hjl : j < xs.length := (List.getElem?_eq_some_iff.1 hj).1
    obtain ⟨Us, a1, a2, a3⟩ := hel j hjl
    rw [he j hjl] at a3
    unfold strEls at a3
    have a4 := vals_inv (Us := [.string (xs.getD j ByteArray.empty)]) a3
    subst a4
    have := a1 0 _ rfl
    rw [show xs.getD j ByteArray.empty = x by simp [List.getD, hj], Nat.mul_one, Nat.add_zero] at this
    exact this
   ·rintro _ w' ⟨rfl, hbl⟩
    exact ⟨_, rfl, vr_val, hbl⟩
theorem splitN_ac (s sep : ByteArray) (n : Nat) (hs : s.size ≤ 1000000000) (h1 : 1 ≤ sep.size) (hn : 1 ≤ n ∧ n ≤ 1000) : AC Tryz.prog 236 (L3 (S s) (S sep) (I n)) (.im 1 (Lib.splitB sep 0 (min n (s.size + 1) - 1) s).length (strEls (Lib.splitB sep 0 (min n (s.size + 1) - 1) s))) := by
 intro w M Vs hM hv
 have hle := Lib.splitB_length_le sep 0 (min n (s.size + 1) - 1) s
 rw [vals_inv (Us := [.string s, .string sep, .int .i64 n]) hv]
 refine (Tryz.strings_SplitN s sep n hM.2.1.choose w (by omega) hM.2.1.choose_spec h1 hn.1 (by omega)).mono ?_
 generalize Lib.splitB sep 0 (min n (s.size + 1) - 1) s = ps at *
 rintro _ w' ⟨rfl, rfl⟩
 refine ⟨_, rfl, ?_, below_allocW w _⟩
 unfold VR
 refine .inr ⟨w.heap.size, 0, _, rfl, by omega, (Array.getElem?_eq_some_iff.1 (heap_alloc_new w _)).1, fun hm => (by have := hM.1 _ hm; omega), fun i hi => ⟨[.string (ps.getD i ByteArray.empty)], fun j U hj => ?_, rfl, ?_⟩⟩
 ·cases j with
  | succ j => simp at hj
  | zero =>
   simp only [List.getElem?_cons_zero, Option.some.injEq] at hj
   subst hj
   have e : (Lib.cellsOf ps (min n (s.size + 1)))[i]? = some (.string (ps.getD i ByteArray.empty)) := by
    unfold Lib.cellsOf
    rw [List.getElem?_toArray, List.getElem?_append_left (by simpa using hi), List.getElem?_map]
    simp [List.getD, hi]
   rw [cell_of_row _ w.heap.size _ _ _ _ (heap_alloc_new w _)]
   simpa using e
 ·unfold strEls VRL VRL
  exact ⟨fun _ => rfl, vr_val, trivial⟩
end Go.Proofs.YthjldemjipnmdaaGreatDoor.Sx
namespace Go.Proofs.YthjldemjipnmdaaGreatDoor.Sx
open Go.RowKit
set_option maxRecDepth 100000
theorem cloneLeap_oc (n : Nat) (els : Nat → AL) (hn : n ≤ 1000000) : OC Tryz.prog 196 (.cons (.im 3 n els) .nil) 42 3 n els := by
 refine OC.enter Tryz.func196 Tryz.ntmps196 rfl rfl rfl (fun F hX => ?_)
 repeat' (first | refine stp tab_ok rfl (by first | exact sideN | exact sideT (by omega)) ?_ | refine gT rfl rfl (by omega) ?_ | refine gF rfl rfl (by omega) ?_ | refine gNT rfl rfl (by omega) ?_ | refine gNF rfl rfl (by omega) ?_ | fail)
 refine good_eqNil tab_ok rfl rfl rfl rfl rfl rfl rfl (fun h => ?_) ?_
 ·subst h
  repeat' (first | refine stp tab_ok rfl (by first | exact sideN | exact sideT (by omega)) ?_ | refine gT rfl rfl (by omega) ?_ | refine gF rfl rfl (by omega) ?_ | refine gNT rfl rfl (by omega) ?_ | refine gNF rfl rfl (by omega) ?_ | fail)
  exact good_retOn tab_ok hX rfl
 ·repeat' (first | refine stp tab_ok rfl (by first | exact sideN | exact sideT (by omega)) ?_ | refine gT rfl rfl (by omega) ?_ | refine gF rfl rfl (by omega) ?_ | refine gNT rfl rfl (by omega) ?_ | refine gNF rfl rfl (by omega) ?_ | fail)
  exact good_retO tab_ok hX rfl rfl (Nat.zero_add _) (fun i _ => rfl)
theorem cloneType_oc (n : Nat) (els : Nat → AL) (hn : n ≤ 1000000) : OC Tryz.prog 78 (.cons (.im 3 n els) .nil) 75 3 n els := by
 refine OC.enter Tryz.func78 Tryz.ntmps78 rfl rfl rfl (fun F hX => ?_)
 repeat' (first | refine stp tab_ok rfl (by first | exact sideN | exact sideT (by omega)) ?_ | refine gT rfl rfl (by omega) ?_ | refine gF rfl rfl (by omega) ?_ | refine gNT rfl rfl (by omega) ?_ | refine gNF rfl rfl (by omega) ?_ | fail)
 refine good_eqNil tab_ok rfl rfl rfl rfl rfl rfl rfl (fun h => ?_) ?_
 ·subst h
  repeat' (first | refine stp tab_ok rfl (by first | exact sideN | exact sideT (by omega)) ?_ | refine gT rfl rfl (by omega) ?_ | refine gF rfl rfl (by omega) ?_ | refine gNT rfl rfl (by omega) ?_ | refine gNF rfl rfl (by omega) ?_ | fail)
  exact good_retOn tab_ok hX rfl
 ·repeat' (first | refine stp tab_ok rfl (by first | exact sideN | exact sideT (by omega)) ?_ | refine gT rfl rfl (by omega) ?_ | refine gF rfl rfl (by omega) ?_ | refine gNT rfl rfl (by omega) ?_ | refine gNF rfl rfl (by omega) ?_ | fail)
  exact good_retO tab_ok hX rfl rfl (Nat.zero_add _) (fun i _ => rfl)
theorem cloneTrans_oc (n : Nat) (els : Nat → AL) (hn : n ≤ 1000000) : OC Tryz.prog 79 (.cons (.im 2 n els) .nil) 138 2 n els := by
 refine OC.enter Tryz.func79 Tryz.ntmps79 rfl rfl rfl (fun F hX => ?_)
 repeat' (first | refine stp tab_ok rfl (by first | exact sideN | exact sideT (by omega)) ?_ | refine gT rfl rfl (by omega) ?_ | refine gF rfl rfl (by omega) ?_ | refine gNT rfl rfl (by omega) ?_ | refine gNF rfl rfl (by omega) ?_ | fail)
 refine good_eqNil tab_ok rfl rfl rfl rfl rfl rfl rfl (fun h => ?_) ?_
 ·subst h
  repeat' (first | refine stp tab_ok rfl (by first | exact sideN | exact sideT (by omega)) ?_ | refine gT rfl rfl (by omega) ?_ | refine gF rfl rfl (by omega) ?_ | refine gNT rfl rfl (by omega) ?_ | refine gNF rfl rfl (by omega) ?_ | fail)
  exact good_retOn tab_ok hX rfl
 ·repeat' (first | refine stp tab_ok rfl (by first | exact sideN | exact sideT (by omega)) ?_ | refine gT rfl rfl (by omega) ?_ | refine gF rfl rfl (by omega) ?_ | refine gNT rfl rfl (by omega) ?_ | refine gNF rfl rfl (by omega) ?_ | fail)
  exact good_retO tab_ok hX rfl rfl (Nat.zero_add _) (fun i _ => rfl)
theorem cloneCorr_oc (n : Nat) (els : Nat → AL) (hn : n ≤ 1000000) : OC Tryz.prog 80 (.cons (.im 2 n els) .nil) 80 2 n els := by
 refine OC.enter Tryz.func80 Tryz.ntmps80 rfl rfl rfl (fun F hX => ?_)
 repeat' (first | refine stp tab_ok rfl (by first | exact sideN | exact sideT (by omega)) ?_ | refine gT rfl rfl (by omega) ?_ | refine gF rfl rfl (by omega) ?_ | refine gNT rfl rfl (by omega) ?_ | refine gNF rfl rfl (by omega) ?_ | fail)
 refine good_eqNil tab_ok rfl rfl rfl rfl rfl rfl rfl (fun h => ?_) ?_
 ·subst h
  repeat' (first | refine stp tab_ok rfl (by first | exact sideN | exact sideT (by omega)) ?_ | refine gT rfl rfl (by omega) ?_ | refine gF rfl rfl (by omega) ?_ | refine gNT rfl rfl (by omega) ?_ | refine gNF rfl rfl (by omega) ?_ | fail)
  exact good_retOn tab_ok hX rfl
 ·repeat' (first | refine stp tab_ok rfl (by first | exact sideN | exact sideT (by omega)) ?_ | refine gT rfl rfl (by omega) ?_ | refine gF rfl rfl (by omega) ?_ | refine gNT rfl rfl (by omega) ?_ | refine gNF rfl rfl (by omega) ?_ | fail)
  exact good_retO tab_ok hX rfl rfl (Nat.zero_add _) (fun i _ => rfl)
theorem cloneByte_oc (n : Nat) (els : Nat → AL) (hn : n ≤ 1000000) : OC Tryz.prog 165 (.cons (.im 1 n els) .nil) 5 1 n els := by
 refine OC.enter Tryz.func165 Tryz.ntmps165 rfl rfl rfl (fun F hX => ?_)
 repeat' (first | refine stp tab_ok rfl (by first | exact sideN | exact sideT (by omega)) ?_ | refine gT rfl rfl (by omega) ?_ | refine gF rfl rfl (by omega) ?_ | refine gNT rfl rfl (by omega) ?_ | refine gNF rfl rfl (by omega) ?_ | fail)
 refine good_eqNil tab_ok rfl rfl rfl rfl rfl rfl rfl (fun h => ?_) ?_
 ·subst h
  repeat' (first | refine stp tab_ok rfl (by first | exact sideN | exact sideT (by omega)) ?_ | refine gT rfl rfl (by omega) ?_ | refine gF rfl rfl (by omega) ?_ | refine gNT rfl rfl (by omega) ?_ | refine gNF rfl rfl (by omega) ?_ | fail)
  exact good_retOn tab_ok hX rfl
 ·repeat' (first | refine stp tab_ok rfl (by first | exact sideN | exact sideT (by omega)) ?_ | refine gT rfl rfl (by omega) ?_ | refine gF rfl rfl (by omega) ?_ | refine gNT rfl rfl (by omega) ?_ | refine gNF rfl rfl (by omega) ?_ | fail)
  exact good_retO tab_ok hX rfl rfl (Nat.zero_add _) (fun i _ => rfl)
theorem OC.ac {P : Program} {f : FuncId} {args : AL} {T sz n : Nat} {els : Nat → AL} (h : OC P f args T sz n els) : AC P f args (.im sz n els) := fun w M Vs hM hv =>
 (h w M Vs hM hv).mono fun _ w' ⟨V, he, hb, _, ⟨xs, ho, hel⟩, hbl⟩ => ⟨V, he, (by
  unfold VR
  rcases ho.2 with ⟨rfl, hn⟩ | ⟨b, cap, cur, T0, fz, rfl, _, h2, h3, h4, h5, h6⟩
  ·exact .inl ⟨hn, rfl⟩
  ·have hb' := hb b rfl
   refine .inr ⟨b, 0, cap, rfl, h3, (Array.getElem?_eq_some_iff.1 h2).1, (fun hm => by have := hM.1 b hm; omega), fun i hi => ?_⟩
   obtain ⟨Us, a1, a2, a3⟩ := hel i hi
   refine ⟨Us, fun j U hj => ?_, a2, VRL.mono (Nat.le_refl _) (fun k _ hk => ⟨rfl, fun h => hk (.inl h)⟩) _ (fun _ _ h => h) a3⟩
   have hx := a1 j U hj
   rw [← h6, List.getElem?_take] at hx
   split at hx
   ·rw [cell_of_row w' b _ cur T0 fz h2]
    simpa using hx
   ·cases hx), hbl⟩
end Go.Proofs.YthjldemjipnmdaaGreatDoor.Sx
namespace Go.Proofs.YthjldemjipnmdaaGreatDoor.Sx
open Go.RowKit
set_option maxRecDepth 100000
theorem rleap_ac (y : Int) (hy : 0 ≤ y ∧ y ≤ 10001) : AC Tryz.prog 229 (L1 (I y)) (B (leapB y)) := by
 refine AC.enter Tryz.func229 Tryz.ntmps229 rfl rfl rfl (fun F hX => ?_)
 repeat' (first | refine stp tab_ok rfl (by first | exact sideN | exact sideT (by omega)) ?_ | refine gT rfl rfl (by omega) ?_ | refine gF rfl rfl (by omega) ?_ | refine gNT rfl rfl (by omega) ?_ | refine gNF rfl rfl (by omega) ?_ | refine gS rfl rfl (fun _ => ?_) (fun _ => ?_) | refine gNS rfl rfl (fun _ => ?_) (fun _ => ?_) | refine gBS rfl rfl (fun _ => ?_) (fun _ => ?_) | refine gBN rfl rfl (fun _ => ?_) (fun _ => ?_) | refine good_ret tab_ok hX rfl (Sub.of_eq ?_) | refine good_end tab_ok hX rfl (Sub.of_eq ?_) | fail)
 all_goals (first | (simp [leapB, *]; done) | (simp [leapB, *]; omega))
def daysD (y m : Int) : Int := if m = 2 ∧ leapB y = true then 29 else mtab.getD (m - 1).toNat 0
theorem daysD_eq (y m : Int) : daysD y m = lastD y m := by
 unfold daysD lastD
 by_cases h : m = 2 ∧ leapB y = true
 ·obtain ⟨rfl, h⟩ := h
  rw [if_pos ⟨rfl, h⟩, if_pos ⟨rfl, h⟩]; rfl
 ·rw [if_neg h, if_neg h]; omega
theorem rdays_ac (y m : Int) (hy : 1 ≤ y ∧ y ≤ 10000) (hm : 1 ≤ m ∧ m ≤ 12) : AC Tryz.prog 187 (L2 (I y) (I m)) (I (lastD y m)) := by
 rw [← daysD_eq]
 refine AC.enter Tryz.func187 Tryz.ntmps187 rfl rfl rfl (fun F hX => ?_)
 repeat' (first | refine stp tab_ok rfl (by first | exact sideN | exact sideT (by omega)) ?_ | refine gT rfl rfl (by omega) ?_ | refine gF rfl rfl (by omega) ?_ | refine gNT rfl rfl (by omega) ?_ | refine gNF rfl rfl (by omega) ?_ | fail)
 refine gS rfl rfl (fun h2 => ?_) (fun h2 => ?_)
 ·repeat' (first | refine stp tab_ok rfl (by first | exact sideN | exact sideT (by omega)) ?_ | refine gT rfl rfl (by omega) ?_ | refine gF rfl rfl (by omega) ?_ | refine gNT rfl rfl (by omega) ?_ | refine gNF rfl rfl (by omega) ?_ | fail)
  refine good_callG rfl rfl rfl rfl rfl rfl rfl rfl rfl ent229 (rleap_ac _ (by omega)) rfl ?_
  repeat' (first | refine stp tab_ok rfl (by first | exact sideN | exact sideT (by omega)) ?_ | refine gT rfl rfl (by omega) ?_ | refine gF rfl rfl (by omega) ?_ | refine gNT rfl rfl (by omega) ?_ | refine gNF rfl rfl (by omega) ?_ | fail)
  refine gBS rfl rfl (fun hl => ?_) (fun hl => ?_)
  ·repeat' (first | refine stp tab_ok rfl (by first | exact sideN | exact sideT (by omega)) ?_ | refine gT rfl rfl (by omega) ?_ | refine gF rfl rfl (by omega) ?_ | refine gNT rfl rfl (by omega) ?_ | refine gNF rfl rfl (by omega) ?_ | refine gS rfl rfl (fun _ => ?_) (fun _ => ?_) | refine gNS rfl rfl (fun _ => ?_) (fun _ => ?_) | refine gBS rfl rfl (fun _ => ?_) (fun _ => ?_) | refine gBN rfl rfl (fun _ => ?_) (fun _ => ?_) | refine good_ret tab_ok hX rfl (Sub.of_eq ?_) | refine good_end tab_ok hX rfl (Sub.of_eq ?_) | fail)
   all_goals simp [daysD, h2, hl]
  ·subst h2
   repeat' (first | refine stp tab_ok rfl (by first | exact sideN | exact sideT (by omega)) ?_ | refine gT rfl rfl (by omega) ?_ | refine gF rfl rfl (by omega) ?_ | refine gNT rfl rfl (by omega) ?_ | refine gNF rfl rfl (by omega) ?_ | refine gS rfl rfl (fun _ => ?_) (fun _ => ?_) | refine gNS rfl rfl (fun _ => ?_) (fun _ => ?_) | refine gBS rfl rfl (fun _ => ?_) (fun _ => ?_) | refine gBN rfl rfl (fun _ => ?_) (fun _ => ?_) | refine good_ret tab_ok hX rfl (Sub.of_eq ?_) | refine good_end tab_ok hX rfl (Sub.of_eq ?_) | fail)
   all_goals simp [daysD, hl, mtab]
 ·repeat' (first | refine stp tab_ok rfl (by first | exact sideN | exact sideT (by omega)) ?_ | refine gT rfl rfl (by omega) ?_ | refine gF rfl rfl (by omega) ?_ | refine gNT rfl rfl (by omega) ?_ | refine gNF rfl rfl (by omega) ?_ | fail)
  obtain h : m = 1 ∨ m = 3 ∨ m = 4 ∨ m = 5 ∨ m = 6 ∨ m = 7 ∨ m = 8 ∨ m = 9 ∨ m = 10 ∨ m = 11 ∨ m = 12 := by omega
  rcases h with rfl | rfl | rfl | rfl | rfl | rfl | rfl | rfl | rfl | rfl | rfl <;> (
   repeat' (first | refine stp tab_ok rfl (by first | exact sideN | exact sideT (by omega)) ?_ | refine good_ret tab_ok hX rfl (Sub.of_eq ?_) | refine good_end tab_ok hX rfl (Sub.of_eq ?_) | fail)
   all_goals simp [daysD, mtab])
def firstY (y : Int) : Int := 365 * (y - 1) + (y - 1) / 4 - (y - 1) / 100 + (y - 1) / 400 + -719162
theorem first_ac (y : Int) (hy : 1 ≤ y ∧ y ≤ 10000) : AC Tryz.prog 228 (L1 (I y)) (I (firstY y)) := by
 refine AC.enter Tryz.func228 Tryz.ntmps228 rfl rfl rfl (fun F hX => ?_)
 repeat' (first | refine stp tab_ok rfl (by first | exact sideN | exact sideT (by omega)) ?_ | refine gT rfl rfl (by omega) ?_ | refine gF rfl rfl (by omega) ?_ | refine gNT rfl rfl (by omega) ?_ | refine gNF rfl rfl (by omega) ?_ | refine gS rfl rfl (fun _ => ?_) (fun _ => ?_) | refine gNS rfl rfl (fun _ => ?_) (fun _ => ?_) | refine gBS rfl rfl (fun _ => ?_) (fun _ => ?_) | refine gBN rfl rfl (fun _ => ?_) (fun _ => ?_) | refine good_ret tab_ok hX rfl (Sub.of_eq ?_) | refine good_end tab_ok hX rfl (Sub.of_eq ?_) | fail)
 all_goals rfl
def ctab : List Int := [0, 31, 59, 90, 120, 151, 181, 212, 243, 273, 304, 334, 365]
def cumD (y m : Int) : Int := ctab.getD (m - 1).toNat 0 + (if 2 < m ∧ leapB y = true then 1 else 0)
theorem cum_step (y m : Int) (h : 1 ≤ m ∧ m ≤ 12) : cumD y (m + 1) = cumD y m + lastD y m := by
 obtain h : m = 1 ∨ m = 2 ∨ m = 3 ∨ m = 4 ∨ m = 5 ∨ m = 6 ∨ m = 7 ∨ m = 8 ∨ m = 9 ∨ m = 10 ∨ m = 11 ∨ m = 12 := by omega
 unfold cumD lastD
 cases leapB y <;> rcases h with rfl | rfl | rfl | rfl | rfl | rfl | rfl | rfl | rfl | rfl | rfl | rfl <;> decide
theorem cum_mono (y : Int) {a : Int} (ha : 1 ≤ a) : ∀ k : Nat, a + k ≤ 12 → cumD y a + lastD y a ≤ cumD y (a + k + 1)
 | 0, h => by rw [cum_step y _ (by omega)]; simp
 | k + 1, h => by
  have h1 := cum_mono y ha k (by omega)
  have h2 := cum_step y (a + k + 1) (by omega)
  have h3 := lastD_bd (y := y) (m := a + k + 1) (by omega)
  rw [show a + (k + 1 : Nat) + 1 = a + k + 1 + 1 by omega, h2]
  omega
theorem cum_lt (y : Int) {a b : Int} (ha : 1 ≤ a) (hab : a < b) (hb : b ≤ 13) : cumD y a + lastD y a ≤ cumD y b := by
 have := cum_mono y ha (b - a - 1).toNat (by omega)
 rwa [show a + ((b - a - 1).toNat : Nat) + 1 = b by omega] at this
theorem cum_bd (y m : Int) (h : 1 ≤ m ∧ m ≤ 13) : 0 ≤ cumD y m ∧ cumD y m ≤ 366 := by
 obtain h : m = 1 ∨ m = 2 ∨ m = 3 ∨ m = 4 ∨ m = 5 ∨ m = 6 ∨ m = 7 ∨ m = 8 ∨ m = 9 ∨ m = 10 ∨ m = 11 ∨ m = 12 ∨ m = 13 := by omega
 unfold cumD
 cases leapB y <;> rcases h with rfl | rfl | rfl | rfl | rfl | rfl | rfl | rfl | rfl | rfl | rfl | rfl | rfl <;> decide
theorem firstY_step (y : Int) : firstY (y + 1) = firstY y + cumD y 13 := by
 have e : cumD y 13 = if leapB y = true then 366 else 365 := by unfold cumD; cases leapB y <;> rfl
 rw [e]
 unfold firstY leapB
 simp only [Bool.and_eq_true, Bool.or_eq_true, Bool.not_eq_true', decide_eq_true_eq, decide_eq_false_iff_not]
 split <;> omega
theorem rdate_ac (n Y M D : Int) (hY : 1 ≤ Y ∧ Y ≤ 9999) (hM : 1 ≤ M ∧ M ≤ 12) (hD : 1 ≤ D ∧ D ≤ lastD Y M) (hn : n = firstY Y + cumD Y M + D - 1) : AC Tryz.prog 186 (L1 (I n)) (.tup (L4 (I Y) (I M) (I D) (B true))) := by
 have h1 : firstY Y ≤ n ∧ n < firstY (Y + 1) ∧ -719162 ≤ n ∧ n ≤ 2932896 := by
  have h1 := firstY_step Y
  have h2 := cum_bd Y M (by omega)
  have h3 := cum_lt Y hM.1 (show M < 13 by omega) (by omega)
  have h4 : firstY (Y + 1) ≤ 2932897 := by unfold firstY; omega
  have h5 : -719162 ≤ firstY Y := by unfold firstY; omega
  omega
 have hf : ∀ y, 1 ≤ y → y < Y → firstY (y + 1) ≤ firstY Y := fun y h1 h2 => by unfold firstY; omega
 have hfb : -719162 ≤ firstY Y ∧ firstY Y ≤ 2932896 := by unfold firstY; omega
 have h0 : (n - -719162) / 366 + 1 ≤ Y := by unfold firstY at h1; omega
 refine AC.enter Tryz.func186 Tryz.ntmps186 rfl rfl rfl (fun F hX => ?_)
 repeat' (first | refine stp tab_ok rfl (by first | exact sideN | exact sideT (by omega)) ?_ | refine gT rfl rfl (by omega) ?_ | refine gF rfl rfl (by omega) ?_ | refine gNT rfl rfl (by omega) ?_ | refine gNF rfl rfl (by omega) ?_ | fail)
 refine good_rounds (fun y => [(0, I n), (6, I y)]) (fun _ => []) (fun y => (Y - y).toNat) (fun y => 1 ≤ y ∧ y ≤ Y) ((n - -719162) / 366 + 1) (by omega) (Wk.mk ⟨Sub.of_eq rfl, Sub.of_eq rfl, trivial⟩ trivial rfl rfl (pin0 hX)) (fun y hy => ?_)
 repeat' (first | refine stp tab_ok rfl (by first | exact sideN | exact sideT (by omega)) ?_ | refine gT rfl rfl (by omega) ?_ | refine gF rfl rfl (by omega) ?_ | refine gNT rfl rfl (by omega) ?_ | refine gNF rfl rfl (by omega) ?_ | fail)
 refine good_call rfl rfl rfl rfl rfl ent228 (first_ac _ (by omega)) rfl ?_
 repeat' (first | refine stp tab_ok rfl (by first | exact sideN | exact sideT (by omega)) ?_ | refine gT rfl rfl (by omega) ?_ | refine gF rfl rfl (by omega) ?_ | refine gNT rfl rfl (by omega) ?_ | refine gNF rfl rfl (by omega) ?_ | fail)
 by_cases h2 : y < Y
 ·have := hf y hy.1 h2
  refine gT rfl rfl (by omega) ?_
  repeat' (first | refine stp tab_ok rfl (by first | exact sideN | exact sideT (by omega)) ?_ | refine gT rfl rfl (by omega) ?_ | refine gF rfl rfl (by omega) ?_ | refine gNT rfl rfl (by omega) ?_ | refine gNF rfl rfl (by omega) ?_ | fail)
  exact good_again (y + 1) (by omega) (by omega) (Wk.mk ⟨Sub.of_eq rfl, Sub.of_eq rfl, trivial⟩ trivial rfl rfl (pin0 hX))
 ·obtain rfl : y = Y := by omega
  refine gF rfl rfl (by omega) ?_
  repeat' (first | refine stp tab_ok rfl (by first | exact sideN | exact sideT (by omega)) ?_ | refine gT rfl rfl (by omega) ?_ | refine gF rfl rfl (by omega) ?_ | refine gNT rfl rfl (by omega) ?_ | refine gNF rfl rfl (by omega) ?_ | fail)
  refine good_call rfl rfl rfl rfl rfl ent228 (first_ac _ (by omega)) rfl ?_
  repeat' (first | refine stp tab_ok rfl (by first | exact sideN | exact sideT (by omega)) ?_ | refine gT rfl rfl (by omega) ?_ | refine gF rfl rfl (by omega) ?_ | refine gNT rfl rfl (by omega) ?_ | refine gNF rfl rfl (by omega) ?_ | fail)
  refine good_rounds (fun m => [(0, I n), (6, I y), (7, I (n - firstY y - cumD y m)), (8, I m)]) (fun _ => []) (fun m => (M - m).toNat) (fun m => 1 ≤ m ∧ m ≤ M) 1 (by omega) ?_ (fun m hm => ?_)
  ·exact Wk.mk ⟨Sub.of_eq rfl, Sub.of_eq rfl, Sub.of_eq (congrArg I (by have : cumD y 1 = 0 := rfl; omega)), Sub.of_eq rfl, trivial⟩ trivial rfl rfl (pin0 hX)
  have hc : ∀ m, 1 ≤ m → m < M → cumD y m + lastD y m ≤ cumD y M := fun m h1 h2 => cum_lt y h1 h2 (by omega)
  have hc2 := hc m hm.1
  have hlm := lastD_bd (y := y) (m := m) (by omega)
  have hcm : 0 ≤ cumD y m ∧ cumD y m ≤ 366 := cum_bd y m (by omega)
  have hcM : 0 ≤ cumD y M ∧ cumD y M ≤ 366 := cum_bd y M (by omega)
  have hlM := lastD_bd (y := y) (m := M) (by omega)
  repeat' (first | refine stp tab_ok rfl (by first | exact sideN | exact sideT (by omega)) ?_ | refine gT rfl rfl (by omega) ?_ | refine gF rfl rfl (by omega) ?_ | refine gNT rfl rfl (by omega) ?_ | refine gNF rfl rfl (by omega) ?_ | fail)
  refine good_call rfl rfl rfl rfl rfl ent187 (rdays_ac _ _ (by omega) (by omega)) rfl ?_
  repeat' (first | refine stp tab_ok rfl (by first | exact sideN | exact sideT (by omega)) ?_ | refine gT rfl rfl (by omega) ?_ | refine gF rfl rfl (by omega) ?_ | refine gNT rfl rfl (by omega) ?_ | refine gNF rfl rfl (by omega) ?_ | fail)
  by_cases h3 : m < M
  ·refine gT rfl rfl (by omega) ?_
   repeat' (first | refine stp tab_ok rfl (by first | exact sideN | exact sideT (by omega)) ?_ | refine gT rfl rfl (by omega) ?_ | refine gF rfl rfl (by omega) ?_ | refine gNT rfl rfl (by omega) ?_ | refine gNF rfl rfl (by omega) ?_ | fail)
   refine good_call rfl rfl rfl rfl rfl ent187 (rdays_ac _ _ (by omega) (by omega)) rfl ?_
   repeat' (first | refine stp tab_ok rfl (by first | exact sideN | exact sideT (by omega)) ?_ | refine gT rfl rfl (by omega) ?_ | refine gF rfl rfl (by omega) ?_ | refine gNT rfl rfl (by omega) ?_ | refine gNF rfl rfl (by omega) ?_ | fail)
   have := cum_step y m (by omega)
   exact good_again (m + 1) (by omega) (by omega) (Wk.mk ⟨Sub.of_eq rfl, Sub.of_eq rfl, Sub.of_eq (congrArg I (by omega)), Sub.of_eq rfl, trivial⟩ trivial rfl rfl (pin0 hX))
  ·obtain rfl : m = M := by omega
   refine gF rfl rfl (by omega) ?_
   repeat' (first | refine stp tab_ok rfl (by first | exact sideN | exact sideT (by omega)) ?_ | refine gT rfl rfl (by omega) ?_ | refine gF rfl rfl (by omega) ?_ | refine gNT rfl rfl (by omega) ?_ | refine gNF rfl rfl (by omega) ?_ | refine gS rfl rfl (fun _ => ?_) (fun _ => ?_) | refine gNS rfl rfl (fun _ => ?_) (fun _ => ?_) | refine gBS rfl rfl (fun _ => ?_) (fun _ => ?_) | refine gBN rfl rfl (fun _ => ?_) (fun _ => ?_) | refine good_ret tab_ok hX rfl (Sub.of_eq ?_) | refine good_end tab_ok hX rfl (Sub.of_eq ?_) | fail)
   all_goals simp only [AV.tup.injEq, AL.cons.injEq, AV.val.injEq, Value.int.injEq, true_and, and_true]
   all_goals omega
end Go.Proofs.YthjldemjipnmdaaGreatDoor.Sx
namespace Go.Proofs.YthjldemjipnmdaaGreatDoor.Sx
open Go.RowKit
def gg (o : Int) : Int := o - o / 1460 + o / 36524 - o / 146096
def yy (y : Int) : Int := 365 * y + y / 4 - y / 100
theorem gg_step (o : Int) (h0 : 0 ≤ o) (h1 : o < 146097) : gg o ≤ gg (o + 1) := by
 unfold gg
 by_cases h : o + 1 = 146096
 ·have : o = 146095 := by omega
  subst this; decide
 ·omega
theorem gg_mono (a : Int) (h0 : 0 ≤ a) : ∀ (n : Nat), a + n < 146098 → gg a ≤ gg (a + n)
 | 0, _ => by simp
 | n + 1, h => by
  have h1 := gg_mono a h0 n (by omega)
  have h2 := gg_step (a + n) (by omega) (by omega)
  have e : a + (n + 1 : Nat) = a + n + 1 := by omega
  rw [e]; omega
theorem gg_le {a b : Int} (h0 : 0 ≤ a) (h : a ≤ b) (hb : b < 146098) : gg a ≤ gg b := by
 have := gg_mono a h0 (b - a).toNat (by omega)
 rwa [show a + ((b - a).toNat : Int) = b by omega] at this
set_option maxRecDepth 100000 in
theorem ends : ∀ y : Fin 400, 365 * (y.val : Int) ≤ gg (yy y.val) ∧ gg (yy (y.val + 1) - 1) ≤ 365 * (y.val : Int) + 364 := by decide +kernel
theorem lo (y : Int) (h0 : 0 ≤ y) (h1 : y < 400) : 365 * y ≤ gg (yy y) ∧ gg (yy (y + 1) - 1) ≤ 365 * y + 364 := by
 have := ends ⟨y.toNat, by omega⟩
 simp only [show ((y.toNat : Nat) : Int) = y by omega] at this
 exact this
theorem yy_bd (y : Int) (h0 : 0 ≤ y) : 0 ≤ yy y ∧ (y ≤ 400 → yy y ≤ 146096) ∧ yy y + 365 ≤ yy (y + 1) ∧ yy (y+1) ≤ yy y + 366 := by unfold yy; omega
theorem yoe_bd (o : Int) (h0 : 0 ≤ o) (h1 : o < 146097) : 0 ≤ yoe o ∧ yoe o ≤ 399 ∧ yy (yoe o) ≤ o ∧ o < yy (yoe o) + 366 ∧ (yoe o < 399 → o < yy (yoe o + 1)) := by
 have a0 : 0 ≤ yoe o := by unfold yoe; omega
 have a1 : yoe o ≤ 399 := by unfold yoe; omega
 have e1 : 365 * yoe o ≤ gg o := by unfold yoe gg; omega
 have e2 : gg o ≤ 365 * yoe o + 364 := by unfold yoe gg; omega
 generalize yoe o = y at *
 have b := yy_bd y a0
 refine ⟨a0, a1, ?_, ?_, ?_⟩
 ·apply Decidable.byContradiction
  intro hn
  have hy : 1 ≤ y := by
   apply Decidable.byContradiction; intro h
   have : y = 0 := by omega
   subst this; simp [yy] at hn; omega
  have l := (lo (y - 1) (by omega) (by omega)).2
  rw [show y - 1 + 1 = y by omega] at l
  have := gg_le h0 (show o ≤ yy y - 1 by omega) (by have := b.2.1 (by omega); omega)
  omega
 ·by_cases hy : y = 399
  ·subst hy; simp [yy]; omega
  ·apply Decidable.byContradiction; intro hn
   have l := (lo (y + 1) (by omega) (by omega)).1
   have b2 := yy_bd (y + 1) (by omega)
   have := gg_le b2.1 (show yy (y + 1) ≤ o by omega) (by omega)
   omega
 ·intro hy
  apply Decidable.byContradiction; intro hn
  have l := (lo (y + 1) (by omega) (by omega)).1
  have b2 := yy_bd (y + 1) (by omega)
  have := gg_le b2.1 (show yy (y + 1) ≤ o by omega) (by omega)
  omega
def lpI (y : Int) : Int := if leapB y = true then 1 else 0
theorem lpI_eq (y : Int) : lpI y = y / 4 - (y - 1) / 4 - (y / 100 - (y - 1) / 100) + (y / 400 - (y - 1) / 400) := by
 unfold lpI leapB
 simp only [Bool.and_eq_true, Bool.or_eq_true, Bool.not_eq_true', decide_eq_true_eq, decide_eq_false_iff_not]
 split <;> omega
theorem lastD_val (y : Int) : lastD y 1 = 31 ∧ lastD y 2 = 28 + lpI y ∧ lastD y 3 = 31 ∧ lastD y 4 = 30 ∧ lastD y 5 = 31 ∧ lastD y 6 = 30 ∧ lastD y 7 = 31 ∧ lastD y 8 = 31 ∧ lastD y 9 = 30 ∧ lastD y 10 = 31 ∧ lastD y 11 = 30 ∧ lastD y 12 = 31 := by
 unfold lastD lpI
 cases leapB y <;> decide
theorem cumD_val (y : Int) : cumD y 1 = 0 ∧ cumD y 2 = 31 ∧ cumD y 3 = 59 + lpI y ∧ cumD y 4 = 90 + lpI y ∧ cumD y 5 = 120 + lpI y ∧ cumD y 6 = 151 + lpI y ∧ cumD y 7 = 181 + lpI y ∧ cumD y 8 = 212 + lpI y ∧ cumD y 9 = 243 + lpI y ∧ cumD y 10 = 273 + lpI y ∧ cumD y 11 = 304 + lpI y ∧ cumD y 12 = 334 + lpI y := by
 unfold cumD lpI
 cases leapB y <;> decide
theorem doy_eq (o : Int) : doy o = o - yy (yoe o) := rfl
theorem date_pre (n : Int) : 0 ≤ yoe (doe n) ∧ yoe (doe n) ≤ 399 ∧ 0 ≤ doy (doe n) ∧ doy (doe n) ≤ 366 := by
 have h := doe_bd n
 obtain ⟨h1, h2, h3, h4, _⟩ := yoe_bd (doe n) h.1 h.2
 rw [doy_eq]
 exact ⟨h1, h2, by omega, by omega⟩
theorem date_is (n : Int) (hn : -719162 ≤ n ∧ n ≤ 2932896) : (1 ≤ dateY n ∧ dateY n ≤ 9999) ∧ (1 ≤ dateM n ∧ dateM n ≤ 12) ∧ (1 ≤ dateD n ∧ dateD n ≤ lastD (dateY n) (dateM n)) ∧ n = firstY (dateY n) + cumD (dateY n) (dateM n) + dateD n - 1 := by
 have h := doe_bd n
 obtain ⟨h1, h2, h3, h4, h5⟩ := yoe_bd (doe n) h.1 h.2
 have e0 : n + 719468 = 146097 * eraOf n + doe n := by unfold eraOf doe; omega
 have hd := doy_eq (doe n)
 unfold dateY dateM dateD mp
 generalize doy (doe n) = d at *
 generalize yoe (doe n) = y at *
 generalize eraOf n = e at *
 generalize doe n = o at *
 unfold yy at *
 have hk : (5 * d + 2) / 153 = 0 ∨ (5 * d + 2) / 153 = 1 ∨ (5 * d + 2) / 153 = 2 ∨ (5 * d + 2) / 153 = 3 ∨ (5 * d + 2) / 153 = 4 ∨ (5 * d + 2) / 153 = 5 ∨ (5 * d + 2) / 153 = 6 ∨ (5 * d + 2) / 153 = 7 ∨ (5 * d + 2) / 153 = 8 ∨ (5 * d + 2) / 153 = 9 ∨ (5 * d + 2) / 153 = 10 ∨ (5 * d + 2) / 153 = 11 := by omega
 have g1 : (400 * e + y) / 4 = 100 * e + y / 4 := by omega
 have g2 : (400 * e + y) / 100 = 4 * e + y / 100 := by omega
 have g3 : (400 * e + y) / 400 = e := by omega
 have g4 : (400 * e + y + 1) / 4 = 100 * e + (y + 1) / 4 := by omega
 have g5 : (400 * e + y + 1) / 100 = 4 * e + (y + 1) / 100 := by omega
 have g6 : (400 * e + y + 1) / 400 = e + (y + 1) / 400 := by omega
 have lv := fun Y => lastD_val Y
 have cv := fun Y => cumD_val Y
 have g7 : 400 * e + y + 1 - 1 = 400 * e + y := by omega
 rcases hk with hk | hk | hk | hk | hk | hk | hk | hk | hk | hk | hk | hk <;> (
  rw [hk]
  simp only [Int.reduceAdd, Int.reduceLT, if_true, if_false, Int.reduceSub, Int.reduceMul, lv, cv, lpI_eq, Int.add_zero, true_and, and_true, Int.reduceLE]
  unfold firstY
  first | omega | (rw [g7]; omega) | (simp only [g7]; omega))
end Go.Proofs.YthjldemjipnmdaaGreatDoor.Sx
namespace Go.Proofs.YthjldemjipnmdaaGreatDoor.Sx
open Go.RowKit
set_option maxRecDepth 100000
def endB (n : Int) : Bool := decide (dateD n = lastD (dateY n) (dateM n))
theorem end_ac (n : Int) (hn : -719162 ≤ n ∧ n ≤ 2932896) : AC Tryz.prog 179 (L1 (I n)) (B (endB n)) := by
 obtain ⟨h1, h2, h3, h4⟩ := date_is n hn
 refine AC.enter Tryz.func179 Tryz.ntmps179 rfl rfl rfl (fun F hX => ?_)
 repeat' (first | refine stp tab_ok rfl (by first | exact sideN | exact sideT (by omega)) ?_ | refine gT rfl rfl (by omega) ?_ | refine gF rfl rfl (by omega) ?_ | refine gNT rfl rfl (by omega) ?_ | refine gNF rfl rfl (by omega) ?_ | fail)
 refine good_call rfl rfl rfl rfl rfl ent72 (date_ac _ hn (date_pre n)) rfl ?_
 repeat' (first | refine stp tab_ok rfl (by first | exact sideN | exact sideT (by omega)) ?_ | refine gT rfl rfl (by omega) ?_ | refine gF rfl rfl (by omega) ?_ | refine gNT rfl rfl (by omega) ?_ | refine gNF rfl rfl (by omega) ?_ | fail)
 refine good_call rfl rfl rfl rfl rfl ent156 (last_ac _ _ h1 h2) rfl ?_
 repeat' (first | refine stp tab_ok rfl (by first | exact sideN | exact sideT (by omega)) ?_ | refine gT rfl rfl (by omega) ?_ | refine gF rfl rfl (by omega) ?_ | refine gNT rfl rfl (by omega) ?_ | refine gNF rfl rfl (by omega) ?_ | refine gS rfl rfl (fun _ => ?_) (fun _ => ?_) | refine gNS rfl rfl (fun _ => ?_) (fun _ => ?_) | refine gBS rfl rfl (fun _ => ?_) (fun _ => ?_) | refine gBN rfl rfl (fun _ => ?_) (fun _ => ?_) | refine good_ret tab_ok hX rfl (Sub.of_eq ?_) | refine good_end tab_ok hX rfl (Sub.of_eq ?_) | fail)
 all_goals simp [endB]
theorem rend_ac (n : Int) (hn : -719162 ≤ n ∧ n ≤ 2932896) : AC Tryz.prog 135 (L1 (I n)) (B (endB n)) := by
 obtain ⟨h1, h2, h3, h4⟩ := date_is n hn
 refine AC.enter Tryz.func135 Tryz.ntmps135 rfl rfl rfl (fun F hX => ?_)
 repeat' (first | refine stp tab_ok rfl (by first | exact sideN | exact sideT (by omega)) ?_ | refine gT rfl rfl (by omega) ?_ | refine gF rfl rfl (by omega) ?_ | refine gNT rfl rfl (by omega) ?_ | refine gNF rfl rfl (by omega) ?_ | fail)
 refine good_call rfl rfl rfl rfl rfl ent186 (rdate_ac n _ _ _ h1 h2 h3 h4) rfl ?_
 repeat' (first | refine stp tab_ok rfl (by first | exact sideN | exact sideT (by omega)) ?_ | refine gT rfl rfl (by omega) ?_ | refine gF rfl rfl (by omega) ?_ | refine gNT rfl rfl (by omega) ?_ | refine gNF rfl rfl (by omega) ?_ | fail)
 refine good_callG rfl rfl rfl rfl rfl rfl rfl rfl rfl ent187 (rdays_ac _ _ (by omega) h2) rfl ?_
 repeat' (first | refine stp tab_ok rfl (by first | exact sideN | exact sideT (by omega)) ?_ | refine gT rfl rfl (by omega) ?_ | refine gF rfl rfl (by omega) ?_ | refine gNT rfl rfl (by omega) ?_ | refine gNF rfl rfl (by omega) ?_ | refine gS rfl rfl (fun _ => ?_) (fun _ => ?_) | refine gNS rfl rfl (fun _ => ?_) (fun _ => ?_) | refine gBS rfl rfl (fun _ => ?_) (fun _ => ?_) | refine gBN rfl rfl (fun _ => ?_) (fun _ => ?_) | refine good_ret tab_ok hX rfl (Sub.of_eq ?_) | refine good_end tab_ok hX rfl (Sub.of_eq ?_) | fail)
 all_goals simp [endB]
theorem firstY_mono {a b : Int} (h : a ≤ b) : firstY a ≤ firstY b := by unfold firstY; omega
theorem date_uniq {n Y M D : Int} (hn : -719162 ≤ n ∧ n ≤ 2932896) (hM : 1 ≤ M ∧ M ≤ 12) (hD : 1 ≤ D ∧ D ≤ lastD Y M) (e : n = firstY Y + cumD Y M + D - 1) : dateY n = Y ∧ dateM n = M ∧ dateD n = D := by
 obtain ⟨h1, h2, h3, h4⟩ := date_is n hn
 generalize dateY n = y at *
 generalize dateM n = m at *
 generalize dateD n = d at *
 have yr : ∀ y m d : Int, 1 ≤ m ∧ m ≤ 12 → 1 ≤ d ∧ d ≤ lastD y m → firstY y ≤ firstY y + cumD y m + d - 1 ∧ firstY y + cumD y m + d - 1 < firstY (y + 1) := by
  intro y m d hm hd
  have a1 := cum_bd y m (by omega)
  have a2 := cum_lt y hm.1 (show m < 13 by omega) (by omega)
  have a3 := firstY_step y
  omega
 have b1 := yr y m d h2 h3
 have b2 := yr Y M D hM hD
 have ey : y = Y := by
  rcases Int.lt_trichotomy y Y with h | h | h
  ·have := firstY_mono (show y + 1 ≤ Y by omega); omega
  ·exact h
  ·have := firstY_mono (show Y + 1 ≤ y by omega); omega
 subst ey
 have em : m = M := by
  rcases Int.lt_trichotomy m M with h | h | h
  ·have := cum_lt y h2.1 h (by omega); omega
  ·exact h
  ·have := cum_lt y hM.1 h (by omega); omega
 subst em
 exact ⟨rfl, rfl, by omega⟩
theorem end_gap {a b : Int} (ha : -719162 ≤ a) (hb : b ≤ 2932896) (hab : a < b) (ea : endB a = true) (eb : endB b = true) : a + 28 ≤ b := by
 simp only [endB, decide_eq_true_eq] at ea eb
 obtain ⟨h1, h2, h3, h4⟩ := date_is a (by omega)
 obtain ⟨k1, k2, k3, k4⟩ := date_is b (by omega)
 have l2 := lastD_bd (y := dateY b) k2
 apply Decidable.byContradiction
 intro hc
 -- then a lies in the month of b
 have hu := date_uniq (n := a) (Y := dateY b) (M := dateM b) (D := dateD b - (b - a)) (by omega) k2 (by omega) (by omega)
 rw [hu.1, hu.2.1, hu.2.2] at ea
 omega
end Go.Proofs.YthjldemjipnmdaaGreatDoor.Sx
namespace Go.Proofs.YthjldemjipnmdaaGreatDoor.Sx
open Go.RowKit
set_option maxRecDepth 100000
theorem last_no (y m : Int) (h : ¬ ((1 ≤ y ∧ y ≤ 9999) ∧ (1 ≤ m ∧ m ≤ 12))) : AC Tryz.prog 156 (L2 (I y) (I m)) (.tup (L2 (I 0) (B false))) := by
 refine AC.enter Tryz.func156 Tryz.ntmps156 rfl rfl rfl (fun F hX => ?_)
 repeat' (first | refine stp tab_ok rfl (by first | exact sideN | exact sideT (by omega)) ?_ | refine gT rfl rfl (by omega) ?_ | refine gF rfl rfl (by omega) ?_ | refine gNT rfl rfl (by omega) ?_ | refine gNF rfl rfl (by omega) ?_ | refine gS rfl rfl (fun _ => ?_) (fun _ => ?_) | refine gNS rfl rfl (fun _ => ?_) (fun _ => ?_) | refine gBS rfl rfl (fun _ => ?_) (fun _ => ?_) | refine gBN rfl rfl (fun _ => ?_) (fun _ => ?_) | fail)
 all_goals (first | (exfalso; omega) | skip)
 repeat' (first | refine stp tab_ok rfl (by first | exact sideN | exact sideT (by omega)) ?_ | refine gT rfl rfl (by omega) ?_ | refine gF rfl rfl (by omega) ?_ | refine gNT rfl rfl (by omega) ?_ | refine gNF rfl rfl (by omega) ?_ | refine gS rfl rfl (fun _ => ?_) (fun _ => ?_) | refine gNS rfl rfl (fun _ => ?_) (fun _ => ?_) | refine gBS rfl rfl (fun _ => ?_) (fun _ => ?_) | refine gBN rfl rfl (fun _ => ?_) (fun _ => ?_) | refine good_ret tab_ok hX rfl (Sub.of_eq ?_) | refine good_end tab_ok hX rfl (Sub.of_eq ?_) | fail)
 all_goals rfl
def validD (y m d : Int) : Prop := (1 ≤ y ∧ y ≤ 9999) ∧ (1 ≤ m ∧ m ≤ 12) ∧ (1 ≤ d ∧ d ≤ lastD y m)
instance (y m d : Int) : Decidable (validD y m d) := by unfold validD; infer_instance
def numD (y m d : Int) : Int := firstY y + cumD y m + d - 1
theorem number_no (y m d : Int) (h : ¬ validD y m d) : AC Tryz.prog 103 (L3 (I y) (I m) (I d)) (.tup (L2 (I 0) (B false))) := by
 unfold validD at h
 by_cases h1 : (1 ≤ y ∧ y ≤ 9999) ∧ (1 ≤ m ∧ m ≤ 12)
 ·have hl := lastD_bd (y := y) h1.2
  refine AC.enter Tryz.func103 Tryz.ntmps103 rfl rfl rfl (fun F hX => ?_)
  repeat' (first | refine stp tab_ok rfl (by first | exact sideN | exact sideT (by omega)) ?_ | refine gT rfl rfl (by omega) ?_ | refine gF rfl rfl (by omega) ?_ | refine gNT rfl rfl (by omega) ?_ | refine gNF rfl rfl (by omega) ?_ | fail)
  refine good_call rfl rfl rfl rfl rfl ent156 (last_ac _ _ h1.1 h1.2) rfl ?_
  repeat' (first | refine stp tab_ok rfl (by first | exact sideN | exact sideT (by omega)) ?_ | refine gT rfl rfl (by omega) ?_ | refine gF rfl rfl (by omega) ?_ | refine gNT rfl rfl (by omega) ?_ | refine gNF rfl rfl (by omega) ?_ | refine gS rfl rfl (fun _ => ?_) (fun _ => ?_) | refine gNS rfl rfl (fun _ => ?_) (fun _ => ?_) | refine gBS rfl rfl (fun _ => ?_) (fun _ => ?_) | refine gBN rfl rfl (fun _ => ?_) (fun _ => ?_) | fail)
  all_goals (first | (exfalso; omega) | skip)
  repeat' (first | refine stp tab_ok rfl (by first | exact sideN | exact sideT (by omega)) ?_ | refine gT rfl rfl (by omega) ?_ | refine gF rfl rfl (by omega) ?_ | refine gNT rfl rfl (by omega) ?_ | refine gNF rfl rfl (by omega) ?_ | refine gS rfl rfl (fun _ => ?_) (fun _ => ?_) | refine gNS rfl rfl (fun _ => ?_) (fun _ => ?_) | refine gBS rfl rfl (fun _ => ?_) (fun _ => ?_) | refine gBN rfl rfl (fun _ => ?_) (fun _ => ?_) | refine good_ret tab_ok hX rfl (Sub.of_eq ?_) | refine good_end tab_ok hX rfl (Sub.of_eq ?_) | fail)
  all_goals rfl
 ·refine AC.enter Tryz.func103 Tryz.ntmps103 rfl rfl rfl (fun F hX => ?_)
  repeat' (first | refine stp tab_ok rfl (by first | exact sideN | exact sideT (by omega)) ?_ | refine gT rfl rfl (by omega) ?_ | refine gF rfl rfl (by omega) ?_ | refine gNT rfl rfl (by omega) ?_ | refine gNF rfl rfl (by omega) ?_ | fail)
  refine good_call rfl rfl rfl rfl rfl ent156 (last_no _ _ h1) rfl ?_
  repeat' (first | refine stp tab_ok rfl (by first | exact sideN | exact sideT (by omega)) ?_ | refine gT rfl rfl (by omega) ?_ | refine gF rfl rfl (by omega) ?_ | refine gNT rfl rfl (by omega) ?_ | refine gNF rfl rfl (by omega) ?_ | refine gS rfl rfl (fun _ => ?_) (fun _ => ?_) | refine gNS rfl rfl (fun _ => ?_) (fun _ => ?_) | refine gBS rfl rfl (fun _ => ?_) (fun _ => ?_) | refine gBN rfl rfl (fun _ => ?_) (fun _ => ?_) | refine good_ret tab_ok hX rfl (Sub.of_eq ?_) | refine good_end tab_ok hX rfl (Sub.of_eq ?_) | fail)
  all_goals rfl
theorem num_lo (y m d : Int) (h : 1 ≤ m ∧ m < 3) : 146097 * ((y - 1) / 400) + 365 * ((y - 1) % 400) + (y - 1) % 400 / 4 - (y - 1) % 400 / 100 + ((153 * (m + 12 - 3) + 2) / 5 + d - 1) - 719468 = numD y m d := by
 obtain ⟨c1, c2, _⟩ := cumD_val y
 have hm : m = 1 ∨ m = 2 := by omega
 unfold numD firstY
 rcases hm with rfl | rfl <;> simp only [c1, c2] <;> omega
theorem num_hi (y m d : Int) (h : 3 ≤ m ∧ m ≤ 12) : 146097 * (y / 400) + 365 * (y % 400) + y % 400 / 4 - y % 400 / 100 + ((153 * (m - 3) + 2) / 5 + d - 1) - 719468 = numD y m d := by
 obtain ⟨_, _, c3, c4, c5, c6, c7, c8, c9, c10, c11, c12⟩ := cumD_val y
 have hl := lpI_eq y
 have g1 : y / 4 = 100 * (y / 400) + y % 400 / 4 := by omega
 have g2 : y / 100 = 4 * (y / 400) + y % 400 / 100 := by omega
 have hm : m = 3 ∨ m = 4 ∨ m = 5 ∨ m = 6 ∨ m = 7 ∨ m = 8 ∨ m = 9 ∨ m = 10 ∨ m = 11 ∨ m = 12 := by omega
 unfold numD firstY
 rcases hm with rfl | rfl | rfl | rfl | rfl | rfl | rfl | rfl | rfl | rfl <;> simp only [c3, c4, c5, c6, c7, c8, c9, c10, c11, c12, hl] <;> omega
theorem number_ac (y m d : Int) (h : validD y m d) : AC Tryz.prog 103 (L3 (I y) (I m) (I d)) (.tup (L2 (I (numD y m d)) (B true))) := by
 obtain ⟨h1, h2, h3⟩ := h
 have hl := lastD_bd (y := y) h2
 refine AC.enter Tryz.func103 Tryz.ntmps103 rfl rfl rfl (fun F hX => ?_)
 repeat' (first | refine stp tab_ok rfl (by first | exact sideN | exact sideT (by omega)) ?_ | refine gT rfl rfl (by omega) ?_ | refine gF rfl rfl (by omega) ?_ | refine gNT rfl rfl (by omega) ?_ | refine gNF rfl rfl (by omega) ?_ | fail)
 refine good_call rfl rfl rfl rfl rfl ent156 (last_ac _ _ h1 h2) rfl ?_
 repeat' (first | refine stp tab_ok rfl (by first | exact sideN | exact sideT (by omega)) ?_ | refine gT rfl rfl (by omega) ?_ | refine gF rfl rfl (by omega) ?_ | refine gNT rfl rfl (by omega) ?_ | refine gNF rfl rfl (by omega) ?_ | fail)
 refine gS rfl rfl (fun h4 => ?_) (fun h4 => ?_)
 ·repeat' (first | refine stp tab_ok rfl (by first | exact sideN | exact sideT (by omega)) ?_ | refine gT rfl rfl (by omega) ?_ | refine gF rfl rfl (by omega) ?_ | refine gNT rfl rfl (by omega) ?_ | refine gNF rfl rfl (by omega) ?_ | fail)
  refine good_call rfl rfl rfl rfl rfl ent81 (numDiv_ac _ _ (by omega) (by omega) (by omega)) rfl ?_
  repeat' (first | refine stp tab_ok rfl (by first | exact sideN | exact sideT (by omega)) ?_ | refine gT rfl rfl (by omega) ?_ | refine gF rfl rfl (by omega) ?_ | refine gNT rfl rfl (by omega) ?_ | refine gNF rfl rfl (by omega) ?_ | refine gS rfl rfl (fun _ => ?_) (fun _ => ?_) | refine gNS rfl rfl (fun _ => ?_) (fun _ => ?_) | refine gBS rfl rfl (fun _ => ?_) (fun _ => ?_) | refine gBN rfl rfl (fun _ => ?_) (fun _ => ?_) | refine good_ret tab_ok hX rfl (Sub.of_eq ?_) | refine good_end tab_ok hX rfl (Sub.of_eq ?_) | fail)
  simp only [AV.tup.injEq, AL.cons.injEq, AV.val.injEq, Value.int.injEq, true_and, and_true]
  exact num_lo y m d (by omega)
 ·repeat' (first | refine stp tab_ok rfl (by first | exact sideN | exact sideT (by omega)) ?_ | refine gT rfl rfl (by omega) ?_ | refine gF rfl rfl (by omega) ?_ | refine gNT rfl rfl (by omega) ?_ | refine gNF rfl rfl (by omega) ?_ | fail)
  refine good_call rfl rfl rfl rfl rfl ent81 (numDiv_ac _ _ (by omega) (by omega) (by omega)) rfl ?_
  repeat' (first | refine stp tab_ok rfl (by first | exact sideN | exact sideT (by omega)) ?_ | refine gT rfl rfl (by omega) ?_ | refine gF rfl rfl (by omega) ?_ | refine gNT rfl rfl (by omega) ?_ | refine gNF rfl rfl (by omega) ?_ | refine gS rfl rfl (fun _ => ?_) (fun _ => ?_) | refine gNS rfl rfl (fun _ => ?_) (fun _ => ?_) | refine gBS rfl rfl (fun _ => ?_) (fun _ => ?_) | refine gBN rfl rfl (fun _ => ?_) (fun _ => ?_) | refine good_ret tab_ok hX rfl (Sub.of_eq ?_) | refine good_end tab_ok hX rfl (Sub.of_eq ?_) | fail)
  simp only [AV.tup.injEq, AL.cons.injEq, AV.val.injEq, Value.int.injEq, true_and, and_true]
  exact num_hi y m d (by omega)
end Go.Proofs.YthjldemjipnmdaaGreatDoor.Sx
namespace Go.Proofs.YthjldemjipnmdaaGreatDoor.Sx
open Go.RowKit
set_option maxRecDepth 100000
structure Lp where
 day : Int
 step : Int
 roll : Bool
 deriving DecidableEq
structure Tbl where
 leaps : List Lp
 has : Bool
 exp : Int
 deriving DecidableEq
def lp0 : Lp := ⟨0, 0, false⟩
def lpA (x : Lp) : AL := L3 (I x.day) (I x.step) (B x.roll)
abbrev leapsA (l : List Lp) : AV := imOf 3 lpA lp0 l
abbrev tblA (t : Tbl) : AV := .agg (L3 (leapsA t.leaps) (B t.has) (I t.exp))
def wrongF (k : Int) (l : Lp) (ahead : Int) : Int :=
 if 200 ≤ k then 8 else if l.day < 730 ∨ 2932896 ≤ l.day then 9 else if endB l.day = false then 5 else if l.step ≠ 1 ∧ l.step ≠ -1 then 6 else if l.day ≤ ahead then 4 else 0
theorem wrong_ac (k : Int) (l : Lp) (ahead : Int) : AC Tryz.prog 130 (L3 (I k) (.agg (lpA l)) (I ahead)) (I (wrongF k l ahead)) := by
 unfold lpA
 refine AC.enter Tryz.func130 Tryz.ntmps130 rfl rfl rfl (fun F hX => ?_)
 repeat' (first | refine stp tab_ok rfl (by first | exact sideN | exact sideT (by omega)) ?_ | refine gT rfl rfl (by omega) ?_ | refine gF rfl rfl (by omega) ?_ | refine gNT rfl rfl (by omega) ?_ | refine gNF rfl rfl (by omega) ?_ | refine gS rfl rfl (fun _ => ?_) (fun _ => ?_) | refine gNS rfl rfl (fun _ => ?_) (fun _ => ?_) | refine gBS rfl rfl (fun _ => ?_) (fun _ => ?_) | refine gBN rfl rfl (fun _ => ?_) (fun _ => ?_) | refine good_ret tab_ok hX rfl (Sub.of_eq ?_) | refine good_end tab_ok hX rfl (Sub.of_eq ?_) | fail)
 all_goals (first | (unfold wrongF; simp [*]; done) | skip)
 refine good_call rfl rfl rfl rfl rfl ent179 (end_ac _ (by omega)) rfl ?_
 repeat' (first | refine stp tab_ok rfl (by first | exact sideN | exact sideT (by omega)) ?_ | refine gT rfl rfl (by omega) ?_ | refine gF rfl rfl (by omega) ?_ | refine gNT rfl rfl (by omega) ?_ | refine gNF rfl rfl (by omega) ?_ | refine gS rfl rfl (fun _ => ?_) (fun _ => ?_) | refine gNS rfl rfl (fun _ => ?_) (fun _ => ?_) | refine gBS rfl rfl (fun _ => ?_) (fun _ => ?_) | refine gBN rfl rfl (fun _ => ?_) (fun _ => ?_) | refine good_ret tab_ok hX rfl (Sub.of_eq ?_) | refine good_end tab_ok hX rfl (Sub.of_eq ?_) | fail)
 all_goals (unfold wrongF endB; simp [*])
def chkL : List Lp → Int → Int → Option (Int × Int)
 | [], _, _ => none
 | x :: l, k, ahead => if wrongF k x ahead ≠ 0 then some (k, wrongF k x ahead) else chkL l (k + 1) x.day
def lastDay (l : List Lp) : Int := match l.getLast? with
 | some x => x.day
 | none => 729
def checkF (t : Tbl) : Int × Int := match chkL t.leaps 0 729 with
 | some p => p
 | none => (t.leaps.length, if t.exp < (if t.has = true then max ((lastDay t.leaps + 1) * 86400) 63072000 else 0) ∨ (if t.has = true then 253402300799 else 0) < t.exp then 9 else 0)
def aheadAt (l : List Lp) (i : Nat) : Int := if i = 0 then 729 else (l.getD (i - 1) lp0).day
theorem chkL_drop (l : List Lp) (i : Nat) (hi : i < l.length) (k ahead : Int) : chkL (l.drop i) k ahead = if wrongF k (l.getD i lp0) ahead ≠ 0 then some (k, wrongF k (l.getD i lp0) ahead) else chkL (l.drop (i + 1)) (k + 1) (l.getD i lp0).day := by
 rw [List.drop_eq_getElem_cons hi, show l.getD i lp0 = l[i] by rw [List.getD_eq_getElem?_getD, List.getElem?_eq_getElem hi]; rfl]
 rfl
theorem wrong_bd {k : Int} {x : Lp} {ahead : Int} (h : wrongF k x ahead = 0) : k < 200 ∧ (730 ≤ x.day ∧ x.day < 2932896) ∧ endB x.day = true ∧ (x.step = 1 ∨ x.step = -1) ∧ ahead < x.day := by
 unfold wrongF at h
 repeat' split at h <;> try omega
 rename_i h1 h2 h3 h4 h5
 exact ⟨by omega, by omega, by simpa using h3, by omega, by omega⟩
theorem aheadAt_last (l : List Lp) : aheadAt l l.length = lastDay l := by
 unfold aheadAt lastDay
 cases h : l with
 | nil => rfl
 | cons x m =>
  rw [← h, if_neg (by rw [h]; simp), List.getLast?_eq_getElem?, List.getD_eq_getElem?_getD, List.getElem?_eq_getElem (by rw [h]; simp)]
  rfl
theorem check_ac (t : Tbl) (hn : t.leaps.length ≤ 100000) : AC Tryz.prog 67 (L1 (tblA t)) (.tup (L2 (I (checkF t).1) (I (checkF t).2))) := by
 refine AC.enter Tryz.func67 Tryz.ntmps67 rfl rfl rfl (fun F hX => ?_)
 repeat' (first | refine stp tab_ok rfl (by first | exact sideN | exact sideT (by omega)) ?_ | refine gT rfl rfl (by omega) ?_ | refine gF rfl rfl (by omega) ?_ | refine gNT rfl rfl (by omega) ?_ | refine gNF rfl rfl (by omega) ?_ | fail)
 refine good_rounds (fun i : Nat => [(11, leapsA t.leaps), (12, I t.leaps.length), (13, I i), (4, I (aheadAt t.leaps i)), (1, .ptr 1 0)]) (fun _ => [(1, .box 25 (L3 (leapsA t.leaps) (B t.has) (I t.exp)))]) (fun i : Nat => t.leaps.length - i) (fun i : Nat => i ≤ t.leaps.length ∧ (729 ≤ aheadAt t.leaps i ∧ aheadAt t.leaps i < 2932896) ∧ chkL (t.leaps.drop i) i (aheadAt t.leaps i) = chkL t.leaps 0 729) 0 ⟨by omega, by simp [aheadAt], by simp [aheadAt]⟩ (Wk.mk ⟨Sub.of_eq rfl, Sub.of_eq rfl, Sub.of_eq rfl, Sub.of_eq rfl, Sub.of_eq rfl, trivial⟩ ⟨⟨_, rfl, SubO.refl _⟩, trivial⟩ rfl rfl (pin0 hX)) (fun i hi => ?_)
 obtain ⟨h1, h2, h3⟩ := hi
 repeat' (first | refine stp tab_ok rfl (by first | exact sideN | exact sideT (by omega)) ?_ | refine gT rfl rfl (by omega) ?_ | refine gF rfl rfl (by omega) ?_ | refine gNT rfl rfl (by omega) ?_ | refine gNF rfl rfl (by omega) ?_ | fail)
 by_cases hlt : i < t.leaps.length
 ·refine gT rfl rfl (by omega) ?_
  repeat' (first | refine stp tab_ok rfl (by first | exact sideN | exact sideT (by omega)) ?_ | refine gT rfl rfl (by omega) ?_ | refine gF rfl rfl (by omega) ?_ | refine gNT rfl rfl (by omega) ?_ | refine gNF rfl rfl (by omega) ?_ | fail)
  refine good_call rfl rfl rfl rfl rfl ent130 (wrong_ac _ _ _) rfl ?_
  repeat' (first | refine stp tab_ok rfl (by first | exact sideN | exact sideT (by omega)) ?_ | refine gT rfl rfl (by omega) ?_ | refine gF rfl rfl (by omega) ?_ | refine gNT rfl rfl (by omega) ?_ | refine gNF rfl rfl (by omega) ?_ | fail)
  have hd := chkL_drop t.leaps i hlt i (aheadAt t.leaps i)
  by_cases hw : wrongF i (t.leaps.getD i lp0) (aheadAt t.leaps i) = 0
  ·refine gF rfl rfl (fun h => h hw) ?_
   repeat' (first | refine stp tab_ok rfl (by first | exact sideN | exact sideT (by omega)) ?_ | refine gT rfl rfl (by omega) ?_ | refine gF rfl rfl (by omega) ?_ | refine gNT rfl rfl (by omega) ?_ | refine gNF rfl rfl (by omega) ?_ | fail)
   have hb := wrong_bd hw
   rw [if_neg (fun h => h hw)] at hd
   refine good_again (i + 1) ⟨by omega, by show 729 ≤ (t.leaps.getD i lp0).day ∧ (t.leaps.getD i lp0).day < 2932896; omega, by rw [← h3, hd]; rfl⟩ (by omega) (Wk.mk ⟨Sub.of_eq rfl, Sub.of_eq rfl, Sub.of_eq rfl, Sub.of_eq rfl, Sub.of_eq rfl, trivial⟩ ⟨⟨_, rfl, SubO.refl _⟩, trivial⟩ rfl rfl (pin0 hX))
  ·refine gT rfl rfl hw ?_
   rw [if_pos hw, h3] at hd
   repeat' (first | refine stp tab_ok rfl (by first | exact sideN | exact sideT (by omega)) ?_ | refine gT rfl rfl (by omega) ?_ | refine gF rfl rfl (by omega) ?_ | refine gNT rfl rfl (by omega) ?_ | refine gNF rfl rfl (by omega) ?_ | refine gS rfl rfl (fun _ => ?_) (fun _ => ?_) | refine gNS rfl rfl (fun _ => ?_) (fun _ => ?_) | refine gBS rfl rfl (fun _ => ?_) (fun _ => ?_) | refine gBN rfl rfl (fun _ => ?_) (fun _ => ?_) | refine good_ret tab_ok hX rfl (Sub.of_eq ?_) | refine good_end tab_ok hX rfl (Sub.of_eq ?_) | fail)
   unfold checkF
   rw [hd]
   rfl
 ·obtain rfl : i = t.leaps.length := by omega
  refine gF rfl rfl (by omega) ?_
  rw [List.drop_length] at h3
  have h3' : chkL t.leaps 0 729 = none := h3.symm
  have hl := aheadAt_last t.leaps
  have he : checkF t = ((t.leaps.length : Int), if t.exp < (if t.has = true then max ((lastDay t.leaps + 1) * 86400) 63072000 else 0) ∨ (if t.has = true then 253402300799 else 0) < t.exp then 9 else 0) := by
   unfold checkF
   rw [h3']
  rw [he]
  rw [hl] at h2 ⊢
  repeat' (first | refine stp tab_ok rfl (by first | exact sideN | exact sideT (by omega)) ?_ | refine gT rfl rfl (by omega) ?_ | refine gF rfl rfl (by omega) ?_ | refine gNT rfl rfl (by omega) ?_ | refine gNF rfl rfl (by omega) ?_ | fail)
  refine gBS rfl rfl (fun hh => ?_) (fun hh => ?_)
  ·simp only [hh, if_true]
   repeat' (first | refine stp tab_ok rfl (by first | exact sideN | exact sideT (by omega)) ?_ | refine gT rfl rfl (by omega) ?_ | refine gF rfl rfl (by omega) ?_ | refine gNT rfl rfl (by omega) ?_ | refine gNF rfl rfl (by omega) ?_ | refine gS rfl rfl (fun _ => ?_) (fun _ => ?_) | refine gNS rfl rfl (fun _ => ?_) (fun _ => ?_) | refine gBS rfl rfl (fun _ => ?_) (fun _ => ?_) | refine gBN rfl rfl (fun _ => ?_) (fun _ => ?_) | refine good_ret tab_ok hX rfl (Sub.of_eq ?_) | refine good_end tab_ok hX rfl (Sub.of_eq ?_) | fail)
   ·rename_i h5; rw [if_pos (.inl h5)]
   ·rename_i h5; rw [if_pos (.inr h5)]
   ·rename_i h4 h5; rw [if_neg (not_or.2 ⟨h4, h5⟩)]
  ·simp only [hh, Bool.false_eq_true, if_false]
   repeat' (first | refine stp tab_ok rfl (by first | exact sideN | exact sideT (by omega)) ?_ | refine gT rfl rfl (by omega) ?_ | refine gF rfl rfl (by omega) ?_ | refine gNT rfl rfl (by omega) ?_ | refine gNF rfl rfl (by omega) ?_ | refine gS rfl rfl (fun _ => ?_) (fun _ => ?_) | refine gNS rfl rfl (fun _ => ?_) (fun _ => ?_) | refine gBS rfl rfl (fun _ => ?_) (fun _ => ?_) | refine gBN rfl rfl (fun _ => ?_) (fun _ => ?_) | refine good_ret tab_ok hX rfl (Sub.of_eq ?_) | refine good_end tab_ok hX rfl (Sub.of_eq ?_) | fail)
   ·rename_i h5; rw [if_pos (.inl h5)]
   ·rename_i h5; rw [if_pos (.inr h5)]
   ·rename_i h4 h5; rw [if_neg (not_or.2 ⟨h4, h5⟩)]
end Go.Proofs.YthjldemjipnmdaaGreatDoor.Sx
namespace Go.Proofs.YthjldemjipnmdaaGreatDoor.Sx
open Go.RowKit
set_option maxRecDepth 100000
def rightB (t : Tbl) : Bool := decide ((checkF t).2 = 0)
theorem right_ac (t : Tbl) (hn : t.leaps.length ≤ 100000) : AC Tryz.prog 26 (L1 (tblA t)) (B (rightB t)) := by
 refine AC.enter Tryz.func26 Tryz.ntmps26 rfl rfl rfl (fun F hX => ?_)
 repeat' (first | refine stp tab_ok rfl (by first | exact sideN | exact sideT (by omega)) ?_ | refine gT rfl rfl (by omega) ?_ | refine gF rfl rfl (by omega) ?_ | refine gNT rfl rfl (by omega) ?_ | refine gNF rfl rfl (by omega) ?_ | fail)
 refine good_call rfl rfl rfl rfl rfl ent67 (check_ac t hn) rfl ?_
 repeat' (first | refine stp tab_ok rfl (by first | exact sideN | exact sideT (by omega)) ?_ | refine gT rfl rfl (by omega) ?_ | refine gF rfl rfl (by omega) ?_ | refine gNT rfl rfl (by omega) ?_ | refine gNF rfl rfl (by omega) ?_ | refine gS rfl rfl (fun _ => ?_) (fun _ => ?_) | refine gNS rfl rfl (fun _ => ?_) (fun _ => ?_) | refine gBS rfl rfl (fun _ => ?_) (fun _ => ?_) | refine gBN rfl rfl (fun _ => ?_) (fun _ => ?_) | refine good_ret tab_ok hX rfl (Sub.of_eq ?_) | refine good_end tab_ok hX rfl (Sub.of_eq ?_) | fail)
 rfl
structure Rt (t : Tbl) : Prop where
 none : chkL t.leaps 0 729 = none
 yes : t.has = true → max ((lastDay t.leaps + 1) * 86400) 63072000 ≤ t.exp ∧ t.exp ≤ 253402300799
 no : t.has = false → t.exp = 0
theorem rt_of {t : Tbl} (h : rightB t = true) : Rt t := by
 simp only [rightB, decide_eq_true_eq] at h
 unfold checkF at h
 cases hc : chkL t.leaps 0 729 with
 | some p =>
  rw [hc] at h
  exfalso
  have key : ∀ (l : List Lp) (k a : Int) (p : Int × Int), chkL l k a = some p → p.2 ≠ 0 := by
   intro l
   induction l with
   | nil => intro k a p e; cases e
   | cons x l ih =>
    intro k a p e
    unfold chkL at e
    split at e
    ·rename_i hw; cases e; exact hw
    ·exact ih _ _ _ e
  exact key _ _ _ _ hc h
 | none =>
  rw [hc] at h
  simp only at h
  have h2 : ¬ (t.exp < (if t.has = true then max ((lastDay t.leaps + 1) * 86400) 63072000 else 0) ∨ (if t.has = true then 253402300799 else 0) < t.exp) := fun hc => by rw [if_pos hc] at h; cases h
  rw [not_or] at h2
  refine ⟨hc, fun hh => ?_, fun hh => ?_⟩
  ·rw [if_pos hh, if_pos hh] at h2; omega
  ·rw [hh, if_neg (by decide), if_neg (by decide)] at h2; omega
theorem rt_iff {t : Tbl} : rightB t = true ↔ Rt t := ⟨rt_of, fun h => by
 simp only [rightB, decide_eq_true_eq]
 unfold checkF
 rw [h.none]
 simp only
 cases hh : t.has with
 | true => have := h.yes hh; rw [if_neg]; simp only [if_true]; omega
 | false => have := h.no hh; rw [if_neg]; simp only [Bool.false_eq_true, if_false]; omega⟩
structure RtL (l : List Lp) (i : Nat) : Prop where
 day : 730 ≤ (l.getD i lp0).day ∧ (l.getD i lp0).day < 2932896
 fin : endB (l.getD i lp0).day = true
 step : (l.getD i lp0).step = 1 ∨ (l.getD i lp0).step = -1
 up : aheadAt l i < (l.getD i lp0).day
 w : wrongF i (l.getD i lp0) (aheadAt l i) = 0
 few : i < 200
theorem chkL_none {l : List Lp} (h : chkL l 0 729 = none) : ∀ i, i < l.length → RtL l i := by
 have key : ∀ n i, i + n = l.length → chkL (l.drop i) i (aheadAt l i) = none → ∀ j, i ≤ j → j < l.length → RtL l j := by
  intro n
  induction n with
  | zero => intro i hi _ j h1 h2; omega
  | succ n ih =>
   intro i hi hc j h1 h2
   rw [chkL_drop l i (by omega)] at hc
   split at hc
   ·cases hc
   ·rename_i hw
    have hw' : wrongF i (l.getD i lp0) (aheadAt l i) = 0 := Decidable.not_not.1 hw
    by_cases e : i = j
    ·subst e
     obtain ⟨a, b, c, d, f⟩ := wrong_bd hw'
     exact ⟨b, c, d, f, hw', by omega⟩
    ·refine ih (i + 1) (by omega) ?_ j (by omega) h2
     have : aheadAt l (i + 1) = (l.getD i lp0).day := by simp [aheadAt]
     rw [this]
     exact hc
 intro i hi
 exact key l.length 0 (by omega) (by simpa [aheadAt] using h) i (by omega) hi
theorem rwrong_ac (t : Tbl) (i : Nat) (hi : i < t.leaps.length) (h : RtL t.leaps i) : AC Tryz.prog 76 (L2 (tblA t) (I i)) (I 0) := by
 obtain ⟨h1, h2, h3, h4, _, h6⟩ := h
 refine AC.enter Tryz.func76 Tryz.ntmps76 rfl rfl rfl (fun F hX => ?_)
 repeat' (first | refine stp tab_ok rfl (by first | exact sideN | exact sideT (by omega)) ?_ | refine gT rfl rfl (by omega) ?_ | refine gF rfl rfl (by omega) ?_ | refine gNT rfl rfl (by omega) ?_ | refine gNF rfl rfl (by omega) ?_ | fail)
 simp only [Int.toNat_natCast]
 repeat' (first | refine stp tab_ok rfl (by first | exact sideN | exact sideT (by omega)) ?_ | refine gT rfl rfl (by omega) ?_ | refine gF rfl rfl (by omega) ?_ | refine gNT rfl rfl (by omega) ?_ | refine gNF rfl rfl (by omega) ?_ | fail)
 refine good_call rfl rfl rfl rfl rfl ent135 (rend_ac _ (by omega)) rfl ?_
 rw [h2]
 rcases h3 with h3 | h3 <;> (
  repeat' (first | refine stp tab_ok rfl (by first | exact sideN | exact sideT (by omega)) ?_ | refine gT rfl rfl (by omega) ?_ | refine gF rfl rfl (by omega) ?_ | refine gNT rfl rfl (by omega) ?_ | refine gNF rfl rfl (by omega) ?_ | fail)
  refine dg_start ?_
  by_cases hi0 : i = 0
  ·repeat' (first | refine dgp tab_ok rfl (by first | exact sideN | exact sideT (by omega)) ?_ | refine dT rfl rfl (by omega) ?_ | refine dF rfl rfl (by omega) ?_ | refine dNT rfl rfl (by omega) ?_ | refine dNF rfl rfl (by omega) ?_ | fail)
   refine dg_end mixed rfl ?_
   repeat' (first | refine stp tab_ok rfl (by first | exact sideN | exact sideT (by omega)) ?_ | refine gT rfl rfl (by omega) ?_ | refine gF rfl rfl (by omega) ?_ | refine gNT rfl rfl (by omega) ?_ | refine gNF rfl rfl (by omega) ?_ | refine gS rfl rfl (fun _ => ?_) (fun _ => ?_) | refine gNS rfl rfl (fun _ => ?_) (fun _ => ?_) | refine gBS rfl rfl (fun _ => ?_) (fun _ => ?_) | refine gBN rfl rfl (fun _ => ?_) (fun _ => ?_) | refine good_ret tab_ok hX rfl (Sub.of_eq ?_) | refine good_end tab_ok hX rfl (Sub.of_eq ?_) | fail)
   rfl
  ·have ha : aheadAt t.leaps i = (t.leaps.getD (i - 1) lp0).day := by unfold aheadAt; rw [if_neg hi0]
   rw [ha] at h4
   have e1 : ((i : Int) - 1).toNat = i - 1 := by omega
   repeat' (first | refine dgp tab_ok rfl (by first | exact sideN | exact sideT (by omega)) ?_ | refine dT rfl rfl (by omega) ?_ | refine dF rfl rfl (by omega) ?_ | refine dNT rfl rfl (by omega) ?_ | refine dNF rfl rfl (by omega) ?_ | fail)
   simp only [e1]
   repeat' (first | refine dgp tab_ok rfl (by first | exact sideN | exact sideT (by omega)) ?_ | refine dT rfl rfl (by omega) ?_ | refine dF rfl rfl (by omega) ?_ | refine dNT rfl rfl (by omega) ?_ | refine dNF rfl rfl (by omega) ?_ | fail)
   refine dg_end mixed rfl ?_
   repeat' (first | refine stp tab_ok rfl (by first | exact sideN | exact sideT (by omega)) ?_ | refine gT rfl rfl (by omega) ?_ | refine gF rfl rfl (by omega) ?_ | refine gNT rfl rfl (by omega) ?_ | refine gNF rfl rfl (by omega) ?_ | fail)
   repeat' (first | refine stp tab_ok rfl (by first | exact sideN | exact sideT (by omega)) ?_ | refine gT rfl rfl (by omega) ?_ | refine gF rfl rfl (by omega) ?_ | refine gNT rfl rfl (by omega) ?_ | refine gNF rfl rfl (by omega) ?_ | refine gS rfl rfl (fun _ => ?_) (fun _ => ?_) | refine gNS rfl rfl (fun _ => ?_) (fun _ => ?_) | refine gBS rfl rfl (fun _ => ?_) (fun _ => ?_) | refine gBN rfl rfl (fun _ => ?_) (fun _ => ?_) | refine good_ret tab_ok hX rfl (Sub.of_eq ?_) | refine good_end tab_ok hX rfl (Sub.of_eq ?_) | fail)
   rfl)
end Go.Proofs.YthjldemjipnmdaaGreatDoor.Sx
namespace Go.Proofs.YthjldemjipnmdaaGreatDoor.Sx
open Go.RowKit
set_option maxRecDepth 100000
def leastAt (l : List Lp) (i : Nat) : Int := if i = 0 then 63072000 else 86400 * ((l.getD (i - 1) lp0).day + 1)
theorem rcheck_ac (t : Tbl) (hn : t.leaps.length ≤ 200) (hr : Rt t) : AC Tryz.prog 35 (L1 (tblA t)) (.tup (L2 (I t.leaps.length) (I 0))) := by
 have hL := chkL_none hr.none
 refine AC.enter Tryz.func35 Tryz.ntmps35 rfl rfl rfl (fun F hX => ?_)
 repeat' (first | refine stp tab_ok rfl (by first | exact sideN | exact sideT (by omega)) ?_ | refine gT rfl rfl (by omega) ?_ | refine gF rfl rfl (by omega) ?_ | refine gNT rfl rfl (by omega) ?_ | refine gNF rfl rfl (by omega) ?_ | fail)
 refine good_rounds (fun i : Nat => [(5, I i), (4, I (leastAt t.leaps i)), (1, .ptr 1 0)]) (fun _ => [(1, .box 25 (L3 (leapsA t.leaps) (B t.has) (I t.exp)))]) (fun i : Nat => t.leaps.length - i) (fun i : Nat => i ≤ t.leaps.length) 0 (by omega) (Wk.mk ⟨Sub.of_eq rfl, Sub.of_eq rfl, Sub.of_eq rfl, trivial⟩ ⟨⟨_, rfl, SubO.refl _⟩, trivial⟩ rfl rfl (pin0 hX)) (fun i hi => ?_)
 repeat' (first | refine stp tab_ok rfl (by first | exact sideN | exact sideT (by omega)) ?_ | refine gT rfl rfl (by omega) ?_ | refine gF rfl rfl (by omega) ?_ | refine gNT rfl rfl (by omega) ?_ | refine gNF rfl rfl (by omega) ?_ | fail)
 by_cases hlt : i < t.leaps.length
 ·have hd := (hL i hlt).day
  refine gT rfl rfl (by omega) ?_
  repeat' (first | refine stp tab_ok rfl (by first | exact sideN | exact sideT (by omega)) ?_ | refine gT rfl rfl (by omega) ?_ | refine gF rfl rfl (by omega) ?_ | refine gNT rfl rfl (by omega) ?_ | refine gNF rfl rfl (by omega) ?_ | fail)
  refine good_call rfl rfl rfl rfl rfl ent76 (rwrong_ac t i hlt (hL i hlt)) rfl ?_
  repeat' (first | refine stp tab_ok rfl (by first | exact sideN | exact sideT (by omega)) ?_ | refine gT rfl rfl (by omega) ?_ | refine gF rfl rfl (by omega) ?_ | refine gNT rfl rfl (by omega) ?_ | refine gNF rfl rfl (by omega) ?_ | fail)
  simp only [Int.toNat_natCast]
  repeat' (first | refine stp tab_ok rfl (by first | exact sideN | exact sideT (by omega)) ?_ | refine gT rfl rfl (by omega) ?_ | refine gF rfl rfl (by omega) ?_ | refine gNT rfl rfl (by omega) ?_ | refine gNF rfl rfl (by omega) ?_ | fail)
  exact good_again (i + 1) (by omega) (by omega) (Wk.mk ⟨Sub.of_eq rfl, Sub.of_eq rfl, Sub.of_eq rfl, trivial⟩ ⟨⟨_, rfl, SubO.refl _⟩, trivial⟩ rfl rfl (pin0 hX))
 ·obtain rfl : i = t.leaps.length := by omega
  have hl : leastAt t.leaps t.leaps.length = max ((lastDay t.leaps + 1) * 86400) 63072000 := by
   rw [← aheadAt_last]
   unfold leastAt aheadAt
   by_cases h0 : t.leaps.length = 0
   ·rw [if_pos h0, if_pos h0]; decide
   ·rw [if_neg h0, if_neg h0]
    have := (hL (t.leaps.length - 1) (by omega)).day
    omega
  have hy := hr.yes
  have hno := hr.no
  refine gF rfl rfl (by omega) ?_
  rw [hl]
  repeat' (first | refine stp tab_ok rfl (by first | exact sideN | exact sideT (by omega)) ?_ | refine gT rfl rfl (by omega) ?_ | refine gF rfl rfl (by omega) ?_ | refine gNT rfl rfl (by omega) ?_ | refine gNF rfl rfl (by omega) ?_ | fail)
  refine gBS rfl rfl (fun hh => ?_) (fun hh => ?_)
  ·have := hy hh
   repeat' (first | refine stp tab_ok rfl (by first | exact sideN | exact sideT (by omega)) ?_ | refine gT rfl rfl (by omega) ?_ | refine gF rfl rfl (by omega) ?_ | refine gNT rfl rfl (by omega) ?_ | refine gNF rfl rfl (by omega) ?_ | fail)
   refine gBN rfl rfl (fun hh2 => ?_) (fun hh2 => ?_)
   ·repeat' (first | refine stp tab_ok rfl (by first | exact sideN | exact sideT (by omega)) ?_ | refine gT rfl rfl (by omega) ?_ | refine gF rfl rfl (by omega) ?_ | refine gNT rfl rfl (by omega) ?_ | refine gNF rfl rfl (by omega) ?_ | refine gS rfl rfl (fun _ => ?_) (fun _ => ?_) | refine gNS rfl rfl (fun _ => ?_) (fun _ => ?_) | refine gBS rfl rfl (fun _ => ?_) (fun _ => ?_) | refine gBN rfl rfl (fun _ => ?_) (fun _ => ?_) | refine good_ret tab_ok hX rfl (Sub.of_eq ?_) | refine good_end tab_ok hX rfl (Sub.of_eq ?_) | fail)
    rfl
   ·rw [hh] at hh2; cases hh2
  ·have := hno hh
   repeat' (first | refine stp tab_ok rfl (by first | exact sideN | exact sideT (by omega)) ?_ | refine gT rfl rfl (by omega) ?_ | refine gF rfl rfl (by omega) ?_ | refine gNT rfl rfl (by omega) ?_ | refine gNF rfl rfl (by omega) ?_ | fail)
   refine gBN rfl rfl (fun hh2 => ?_) (fun hh2 => ?_)
   ·rw [hh] at hh2; cases hh2
   ·repeat' (first | refine stp tab_ok rfl (by first | exact sideN | exact sideT (by omega)) ?_ | refine gT rfl rfl (by omega) ?_ | refine gF rfl rfl (by omega) ?_ | refine gNT rfl rfl (by omega) ?_ | refine gNF rfl rfl (by omega) ?_ | refine gS rfl rfl (fun _ => ?_) (fun _ => ?_) | refine gNS rfl rfl (fun _ => ?_) (fun _ => ?_) | refine gBS rfl rfl (fun _ => ?_) (fun _ => ?_) | refine gBN rfl rfl (fun _ => ?_) (fun _ => ?_) | refine good_ret tab_ok hX rfl (Sub.of_eq ?_) | refine good_end tab_ok hX rfl (Sub.of_eq ?_) | fail)
    rfl
theorem rright_ac (t : Tbl) (hn : t.leaps.length ≤ 200) (hr : Rt t) : AC Tryz.prog 13 (L1 (tblA t)) (B true) := by
 refine AC.enter Tryz.func13 Tryz.ntmps13 rfl rfl rfl (fun F hX => ?_)
 repeat' (first | refine stp tab_ok rfl (by first | exact sideN | exact sideT (by omega)) ?_ | refine gT rfl rfl (by omega) ?_ | refine gF rfl rfl (by omega) ?_ | refine gNT rfl rfl (by omega) ?_ | refine gNF rfl rfl (by omega) ?_ | fail)
 refine good_call rfl rfl rfl rfl rfl ent35 (rcheck_ac t hn hr) rfl ?_
 repeat' (first | refine stp tab_ok rfl (by first | exact sideN | exact sideT (by omega)) ?_ | refine gT rfl rfl (by omega) ?_ | refine gF rfl rfl (by omega) ?_ | refine gNT rfl rfl (by omega) ?_ | refine gNF rfl rfl (by omega) ?_ | refine gS rfl rfl (fun _ => ?_) (fun _ => ?_) | refine gNS rfl rfl (fun _ => ?_) (fun _ => ?_) | refine gBS rfl rfl (fun _ => ?_) (fun _ => ?_) | refine gBN rfl rfl (fun _ => ?_) (fun _ => ?_) | refine good_ret tab_ok hX rfl (Sub.of_eq ?_) | refine good_end tab_ok hX rfl (Sub.of_eq ?_) | fail)
 rfl
theorem rt_len {t : Tbl} (hr : Rt t) : t.leaps.length ≤ 200 := by
 apply Decidable.byContradiction
 intro h
 have := (chkL_none hr.none 200 (by omega)).few
 omega
end Go.Proofs.YthjldemjipnmdaaGreatDoor.Sx
namespace Go.Proofs.YthjldemjipnmdaaGreatDoor.Sx
open Go.RowKit
set_option maxRecDepth 100000
theorem imOf_snoc {α : Type} {sz : Nat} {f : α → AL} {z : α} (l : List α) (x : α) {n : Nat} {els : Nat → AL} (hn : n = l.length + 1) (he : ∀ i, i < l.length → els i = f (l.getD i z)) (hx : els l.length = f x) : Sub (.im sz n els) (imOf sz f z (l ++ [x])) := by
 refine Sub.im (by simp [hn]) (fun i hi => ?_)
 by_cases h : i < l.length
 ·rw [he i h, List.getD_eq_getElem?_getD, List.getD_eq_getElem?_getD, List.getElem?_append_left h]
 ·obtain rfl : i = l.length := by omega
  rw [hx, List.getD_eq_getElem?_getD, List.getElem?_append_right (Nat.le_refl _), Nat.sub_self]
  rfl
def moreF (t : Tbl) (x : Lp) : Tbl := { t with leaps := t.leaps ++ [x] }
def addF (t : Tbl) (x : Lp) : Tbl × Int := if (checkF (moreF t x)).2 ≠ 0 then (t, (checkF (moreF t x)).2) else (moreF t x, 0)
theorem add_ac (t : Tbl) (x : Lp) (hn : t.leaps.length ≤ 90000) : AC Tryz.prog 147 (L2 (tblA t) (.agg (lpA x))) (.tup (L2 (tblA (addF t x).1) (I (addF t x).2))) := by
 unfold lpA
 refine AC.enter Tryz.func147 Tryz.ntmps147 rfl rfl rfl (fun F hX => ?_)
 repeat' (first | refine stp tab_ok rfl (by first | exact sideN | exact sideT (by omega)) ?_ | refine gT rfl rfl (by omega) ?_ | refine gF rfl rfl (by omega) ?_ | refine gNT rfl rfl (by omega) ?_ | refine gNF rfl rfl (by omega) ?_ | fail)
 refine dg_start ?_
 repeat' (first | refine dgp tab_ok rfl (by first | exact sideN | exact sideT (by omega)) ?_ | refine dT rfl rfl (by omega) ?_ | refine dF rfl rfl (by omega) ?_ | refine dNT rfl rfl (by omega) ?_ | refine dNF rfl rfl (by omega) ?_ | fail)
 refine dg_callO rfl rfl rfl rfl rfl rfl ent196 (cloneLeap_oc _ _ (by omega)) rfl rfl ?_
 repeat' (first | refine dgp tab_ok rfl (by first | exact sideN | exact sideT (by omega)) ?_ | refine dT rfl rfl (by omega) ?_ | refine dF rfl rfl (by omega) ?_ | refine dNT rfl rfl (by omega) ?_ | refine dNF rfl rfl (by omega) ?_ | fail)
 refine dg_end mixed rfl ?_
 refine good_freeze 19 rfl ?_
 repeat' (first | refine stp tab_ok rfl (by first | exact sideN | exact sideT (by omega)) ?_ | refine gT rfl rfl (by omega) ?_ | refine gF rfl rfl (by omega) ?_ | refine gNT rfl rfl (by omega) ?_ | refine gNF rfl rfl (by omega) ?_ | fail)
 have hs : Sub (.im 3 (t.leaps.length + 1) (catF t.leaps.length (fun i => lpA (t.leaps.getD i lp0)) (elsOf [lpA x]))) (leapsA (t.leaps ++ [x])) := imOf_snoc _ x rfl (fun i hi => by unfold catF; rw [if_pos hi]) (by unfold catF; rw [if_neg (Nat.lt_irrefl _)]; rfl)
 refine good_call rfl rfl rfl rfl rfl ent67 ((check_ac (moreF t x) (by simp [moreF]; omega)).args (SubL.cons (Sub.agg (SubL.cons hs (SubL.refl _))) (SubL.refl _))) rfl ?_
 repeat' (first | refine stp tab_ok rfl (by first | exact sideN | exact sideT (by omega)) ?_ | refine gT rfl rfl (by omega) ?_ | refine gF rfl rfl (by omega) ?_ | refine gNT rfl rfl (by omega) ?_ | refine gNF rfl rfl (by omega) ?_ | fail)
 unfold addF
 by_cases hw : (checkF (moreF t x)).2 = 0
 ·refine gF rfl rfl (fun h => h hw) ?_
  rw [if_neg (fun h => h hw)]
  repeat' (first | refine stp tab_ok rfl (by first | exact sideN | exact sideT (by omega)) ?_ | refine gT rfl rfl (by omega) ?_ | refine gF rfl rfl (by omega) ?_ | refine gNT rfl rfl (by omega) ?_ | refine gNF rfl rfl (by omega) ?_ | fail)
  exact good_ret tab_ok hX rfl (Sub.tup (SubL.cons (Sub.agg (SubL.cons hs (SubL.refl _))) (SubL.refl _)))
 ·refine gT rfl rfl hw ?_
  rw [if_pos hw]
  repeat' (first | refine stp tab_ok rfl (by first | exact sideN | exact sideT (by omega)) ?_ | refine gT rfl rfl (by omega) ?_ | refine gF rfl rfl (by omega) ?_ | refine gNT rfl rfl (by omega) ?_ | refine gNF rfl rfl (by omega) ?_ | fail)
  refine good_ret tab_ok hX rfl (Sub.tup (SubL.cons (Sub.agg (SubL.cons (Sub.im (by simp) (fun i hi => ?_)) (SubL.refl _))) (SubL.refl _)))
  have hi' : i < t.leaps.length := by omega
  simp only [shiftF, catF, Int.toNat_zero, hi', if_true]
end Go.Proofs.YthjldemjipnmdaaGreatDoor.Sx
namespace Go.Proofs.YthjldemjipnmdaaGreatDoor.Sx
open Go.RowKit
set_option maxRecDepth 100000
theorem search_ac (f : Nat) (a b : AL) (hE : Ent Tryz.prog f) (n : Nat) (hn : n ≤ 1000000) (p : Nat → Bool) (hc : ∀ i, i < n → AC Tryz.prog f (L3 (I i) (.pim a) (.pim b)) (B (p i))) (k : Nat) (hk : k ≤ n) (h1 : ∀ i, i < k → p i = false) (h2 : ∀ i, k ≤ i → i < n → p i = true) : AC Tryz.prog 190 (L2 (I n) (.fn f (L2 (.pim a) (.pim b)))) (I k) := by
 refine AC.enter Tryz.func190 Tryz.ntmps190 rfl rfl rfl (fun F hX => ?_)
 repeat' (first | refine stp tab_ok rfl (by first | exact sideN | exact sideT (by omega)) ?_ | refine gT rfl rfl (by omega) ?_ | refine gF rfl rfl (by omega) ?_ | refine gNT rfl rfl (by omega) ?_ | refine gNF rfl rfl (by omega) ?_ | fail)
 refine good_rounds (fun x : Nat × Nat => [(5, I x.1), (6, I x.2), (1, .fn f (L2 (.pim a) (.pim b)))]) (fun _ => []) (fun x : Nat × Nat => x.2 - x.1) (fun x : Nat × Nat => x.1 ≤ k ∧ k ≤ x.2 ∧ x.2 ≤ n) (0, n) ⟨by omega, hk, by omega⟩ (Wk.mk ⟨Sub.of_eq rfl, Sub.of_eq rfl, Sub.of_eq rfl, trivial⟩ trivial rfl rfl (pin0 hX)) (fun x hx => ?_)
 obtain ⟨i, j⟩ := x
 obtain ⟨g1, g2, g3⟩ := hx
 simp only at g1 g2 g3
 dsimp only
 have e : (((i : Int) + (j : Int)).fdiv (2 ^ min (Int.toNat 1) IntKind.u64.bits)) = (((i + j) / 2 : Nat) : Int) := by
  show ((i : Int) + (j : Int)).fdiv 2 = _
  rw [Int.fdiv_eq_ediv_of_nonneg _ (by decide)]
  omega
 repeat' (first | refine stp tab_ok rfl (by first | exact sideN | exact sideT (by omega)) ?_ | refine gT rfl rfl (by omega) ?_ | refine gF rfl rfl (by omega) ?_ | refine gNT rfl rfl (by omega) ?_ | refine gNF rfl rfl (by omega) ?_ | fail)
 by_cases hij : i < j
 ·refine gT rfl rfl (by omega) ?_
  repeat' (first | refine stp tab_ok rfl (by first | exact sideN | exact sideT (by omega)) ?_ | refine gT rfl rfl (by omega) ?_ | refine gF rfl rfl (by omega) ?_ | refine gNT rfl rfl (by omega) ?_ | refine gNF rfl rfl (by omega) ?_ | fail)
  rw [e]
  have hm : (i + j) / 2 < n := by omega
  generalize hh : (i + j) / 2 = m at *
  repeat' (first | refine stp tab_ok rfl (by first | exact sideN | exact sideT (by omega)) ?_ | refine gT rfl rfl (by omega) ?_ | refine gF rfl rfl (by omega) ?_ | refine gNT rfl rfl (by omega) ?_ | refine gNF rfl rfl (by omega) ?_ | fail)
  refine good_call rfl rfl rfl rfl rfl hE (hc m hm) rfl ?_
  repeat' (first | refine stp tab_ok rfl (by first | exact sideN | exact sideT (by omega)) ?_ | refine gT rfl rfl (by omega) ?_ | refine gF rfl rfl (by omega) ?_ | refine gNT rfl rfl (by omega) ?_ | refine gNF rfl rfl (by omega) ?_ | fail)
  by_cases hkm : k ≤ m
  ·refine gBN rfl rfl (fun hp => ?_) (fun hp => ?_)
   ·repeat' (first | refine stp tab_ok rfl (by first | exact sideN | exact sideT (by omega)) ?_ | refine gT rfl rfl (by omega) ?_ | refine gF rfl rfl (by omega) ?_ | refine gNT rfl rfl (by omega) ?_ | refine gNF rfl rfl (by omega) ?_ | fail)
    exact good_again (i, m) (by simp only; omega) (by simp only; omega) (Wk.mk ⟨Sub.of_eq rfl, Sub.of_eq rfl, Sub.of_eq rfl, trivial⟩ trivial rfl rfl (pin0 hX))
   ·rw [h2 m hkm hm] at hp; cases hp
  ·refine gBN rfl rfl (fun hp => ?_) (fun hp => ?_)
   ·rw [h1 m (by omega)] at hp; cases hp
   ·repeat' (first | refine stp tab_ok rfl (by first | exact sideN | exact sideT (by omega)) ?_ | refine gT rfl rfl (by omega) ?_ | refine gF rfl rfl (by omega) ?_ | refine gNT rfl rfl (by omega) ?_ | refine gNF rfl rfl (by omega) ?_ | fail)
    exact good_again (m + 1, j) (by simp only; omega) (by simp only; omega) (Wk.mk ⟨Sub.of_eq rfl, Sub.of_eq rfl, Sub.of_eq rfl, trivial⟩ trivial rfl rfl (pin0 hX))
 ·refine gF rfl rfl (by omega) ?_
  repeat' (first | refine stp tab_ok rfl (by first | exact sideN | exact sideT (by omega)) ?_ | refine gT rfl rfl (by omega) ?_ | refine gF rfl rfl (by omega) ?_ | refine gNT rfl rfl (by omega) ?_ | refine gNF rfl rfl (by omega) ?_ | refine gS rfl rfl (fun _ => ?_) (fun _ => ?_) | refine gNS rfl rfl (fun _ => ?_) (fun _ => ?_) | refine gBS rfl rfl (fun _ => ?_) (fun _ => ?_) | refine gBN rfl rfl (fun _ => ?_) (fun _ => ?_) | refine good_ret tab_ok hX rfl (Sub.of_eq ?_) | refine good_end tab_ok hX rfl (Sub.of_eq ?_) | fail)
  have : i = k := by omega
  rw [this]
end Go.Proofs.YthjldemjipnmdaaGreatDoor.Sx
namespace Go.Proofs.YthjldemjipnmdaaGreatDoor.Sx
open Go.RowKit
set_option maxRecDepth 100000
structure Cr where
 at_ : Int
 corr : Int
 deriving DecidableEq
def cr0 : Cr := ⟨0, 0⟩
def crA (x : Cr) : AL := L2 (I x.at_) (I x.corr)
abbrev corrA (l : List Cr) : AV := imOf 2 crA cr0 l
def recL : List Lp → Int → List Cr
 | [], _ => []
 | x :: l, s => ⟨(x.day + 1) * 86400 + s + min x.step 0, s + x.step⟩ :: recL l (s + x.step)
def sumAt (l : List Lp) : Nat → Int
 | 0 => 0
 | i + 1 => sumAt l i + (l.getD i lp0).step
def recs (t : Tbl) : List Cr := recL t.leaps 0 ++ (if t.has = true then [⟨t.exp + sumAt t.leaps t.leaps.length, sumAt t.leaps t.leaps.length⟩] else [])
theorem recL_len : ∀ (l : List Lp) (s : Int), (recL l s).length = l.length
 | [], _ => rfl
 | x :: l, s => by unfold recL; simp [recL_len l]
theorem sumAt_cons (x : Lp) (l : List Lp) : ∀ i, sumAt (x :: l) (i + 1) = x.step + sumAt l i
 | 0 => by simp [sumAt]
 | i + 1 => by
  have := sumAt_cons x l i
  show sumAt (x :: l) (i + 1) + ((x :: l).getD (i + 1) lp0).step = x.step + (sumAt l i + (l.getD i lp0).step)
  rw [this]
  simp only [List.getD_cons_succ]
  omega
def atI (l : List Lp) (i : Nat) : Int := ((l.getD i lp0).day + 1) * 86400 + sumAt l i + min (l.getD i lp0).step 0
theorem recL_get : ∀ (l : List Lp) (s : Int) (i : Nat), i < l.length → (recL l s).getD i cr0 = ⟨((l.getD i lp0).day + 1) * 86400 + (s + sumAt l i) + min (l.getD i lp0).step 0, s + sumAt l (i + 1)⟩
 | [], _, i, h => by simp at h
 | x :: l, s, 0, _ => by unfold recL; simp [sumAt]
 | x :: l, s, i + 1, h => by
  unfold recL
  rw [List.getD_cons_succ, recL_get l (s + x.step) i (by simpa using h), List.getD_cons_succ, sumAt_cons, sumAt_cons]
  congr 1 <;> omega
theorem recL_at (l : List Lp) (i : Nat) (h : i < l.length) : (recL l 0).getD i cr0 = ⟨atI l i, sumAt l (i + 1)⟩ := by
 rw [recL_get l 0 i h, Int.zero_add, Int.zero_add]; rfl
theorem recs_len (t : Tbl) : (recs t).length = t.leaps.length + (if t.has = true then 1 else 0) := by
 unfold recs
 rw [List.length_append, recL_len]
 split <;> rfl
theorem recs_lo (t : Tbl) (i : Nat) (h : i < t.leaps.length) : (recs t).getD i cr0 = ⟨atI t.leaps i, sumAt t.leaps (i + 1)⟩ := by
 unfold recs
 rw [List.getD_eq_getElem?_getD, List.getElem?_append_left (by rw [recL_len]; exact h), ← List.getD_eq_getElem?_getD, recL_at _ _ h]
theorem recs_hi (t : Tbl) (h : t.has = true) : (recs t).getD t.leaps.length cr0 = ⟨t.exp + sumAt t.leaps t.leaps.length, sumAt t.leaps t.leaps.length⟩ := by
 unfold recs
 rw [List.getD_eq_getElem?_getD, List.getElem?_append_right (by rw [recL_len]; exact Nat.le_refl _), recL_len, Nat.sub_self, if_pos h]
 rfl
theorem sumAt_bd {l : List Lp} (h : ∀ i, i < l.length → RtL l i) : ∀ i, i ≤ l.length → -i ≤ sumAt l i ∧ sumAt l i ≤ i
 | 0, _ => by simp [sumAt]
 | i + 1, hi => by
  have := sumAt_bd h i (by omega)
  have := (h i (by omega)).step
  unfold sumAt
  omega
theorem day_gap {l : List Lp} (h : ∀ i, i < l.length → RtL l i) {i : Nat} (hi : i + 1 < l.length) : (l.getD i lp0).day + 28 ≤ (l.getD (i + 1) lp0).day := by
 have h1 := h i (by omega)
 have h2 := h (i + 1) hi
 have h3 := h2.up
 have e : aheadAt l (i + 1) = (l.getD i lp0).day := by simp [aheadAt]
 rw [e] at h3
 exact end_gap (by have := h1.day; omega) (by have := h2.day; omega) h3 h1.fin h2.fin
theorem at_gap {l : List Lp} (h : ∀ i, i < l.length → RtL l i) {i : Nat} (hi : i + 1 < l.length) : atI l i + 2419199 ≤ atI l (i + 1) := by
 have h1 := day_gap h hi
 have h2 := (h i (by omega)).step
 have h3 := (h (i + 1) hi).step
 unfold atI
 have e : sumAt l (i + 1) = sumAt l i + (l.getD i lp0).step := rfl
 omega
theorem at_mono {l : List Lp} (h : ∀ i, i < l.length → RtL l i) : ∀ {i j : Nat}, i < j → j < l.length → atI l i + 2419199 ≤ atI l j := by
 intro i j hij
 induction j with
 | zero => omega
 | succ j ih =>
  intro hj
  have h1 := at_gap h hj
  by_cases e : i = j
  ·subst e; exact h1
  ·have := ih (by omega) (by omega); omega
theorem at_bd {l : List Lp} (h : ∀ i, i < l.length → RtL l i) {i : Nat} (hi : i < l.length) : 63072000 ≤ atI l i ∧ atI l i ≤ 253402400000 := by
 have h1 := sumAt_bd h i (by omega)
 have h2 := (h i hi).day
 have h3 := (h i hi).step
 have h4 := (h i hi).few
 unfold atI
 omega
theorem leaps_ac (t : Tbl) (hr : Rt t) : AC Tryz.prog 127 (L1 (corrA (recs t))) (corrA (recL t.leaps 0)) := by
 have hL := chkL_none hr.none
 have hn := rt_len hr
 have hlen := recs_len t
 have hsub : ∀ (m : Nat) (els : Nat → AL), m = t.leaps.length → (∀ i, i < t.leaps.length → els i = crA ((recs t).getD i cr0)) → Sub (.im 2 m els) (corrA (recL t.leaps 0)) := fun m els hm he =>
  Sub.im (by rw [recL_len]; exact hm) (fun i hi => by rw [he i (by omega), recs_lo t i (by omega), recL_at _ i (by omega)])
 cases hh : t.has with
 | true =>
  rw [if_pos hh] at hlen
  have hi := recs_hi t hh
  by_cases h0 : t.leaps.length = 0
  ·have hc0 : ((recs t).getD 0 cr0).corr = 0 := by rw [h0] at hi; rw [hi]; rfl
   refine AC.enter Tryz.func127 Tryz.ntmps127 rfl rfl rfl (fun F hX => ?_)
   repeat' (first | refine stp tab_ok rfl (by first | exact sideN | exact sideT (by omega)) ?_ | refine gT rfl rfl (by omega) ?_ | refine gF rfl rfl (by omega) ?_ | refine gNT rfl rfl (by omega) ?_ | refine gNF rfl rfl (by omega) ?_ | fail)
   simp only [Int.toNat_zero]
   repeat' (first | refine stp tab_ok rfl (by first | exact sideN | exact sideT (by omega)) ?_ | refine gT rfl rfl (by omega) ?_ | refine gF rfl rfl (by omega) ?_ | refine gNT rfl rfl (by omega) ?_ | refine gNF rfl rfl (by omega) ?_ | fail)
   exact good_ret tab_ok hX rfl (hsub _ _ (by omega) (fun i _ => rfl))
  ·have e1 : (((recs t).length : Int) - 1).toNat = t.leaps.length := by omega
   have e2 : (((recs t).length : Int) - 1 - 1).toNat = t.leaps.length - 1 := by omega
   have hc0 : ((recs t).getD t.leaps.length cr0).corr = ((recs t).getD (t.leaps.length - 1) cr0).corr := by
    rw [hi, recs_lo t _ (by omega)]
    show sumAt t.leaps t.leaps.length = sumAt t.leaps (t.leaps.length - 1 + 1)
    rw [show t.leaps.length - 1 + 1 = t.leaps.length by omega]
   refine AC.enter Tryz.func127 Tryz.ntmps127 rfl rfl rfl (fun F hX => ?_)
   repeat' (first | refine stp tab_ok rfl (by first | exact sideN | exact sideT (by omega)) ?_ | refine gT rfl rfl (by omega) ?_ | refine gF rfl rfl (by omega) ?_ | refine gNT rfl rfl (by omega) ?_ | refine gNF rfl rfl (by omega) ?_ | fail)
   refine dg_start ?_
   repeat' (first | refine dgp tab_ok rfl (by first | exact sideN | exact sideT (by omega)) ?_ | refine dT rfl rfl (by omega) ?_ | refine dF rfl rfl (by omega) ?_ | refine dNT rfl rfl (by omega) ?_ | refine dNF rfl rfl (by omega) ?_ | fail)
   simp only [e1, e2]
   repeat' (first | refine dgp tab_ok rfl (by first | exact sideN | exact sideT (by omega)) ?_ | refine dT rfl rfl (by omega) ?_ | refine dF rfl rfl (by omega) ?_ | refine dNT rfl rfl (by omega) ?_ | refine dNF rfl rfl (by omega) ?_ | fail)
   refine dg_end mixed rfl ?_
   repeat' (first | refine stp tab_ok rfl (by first | exact sideN | exact sideT (by omega)) ?_ | refine gT rfl rfl (by omega) ?_ | refine gF rfl rfl (by omega) ?_ | refine gNT rfl rfl (by omega) ?_ | refine gNF rfl rfl (by omega) ?_ | fail)
   exact good_ret tab_ok hX rfl (hsub _ _ (by omega) (fun i _ => rfl))
 | false =>
  rw [hh, if_neg (by decide), Nat.add_zero] at hlen
  by_cases h0 : t.leaps.length = 0
  ·refine AC.enter Tryz.func127 Tryz.ntmps127 rfl rfl rfl (fun F hX => ?_)
   repeat' (first | refine stp tab_ok rfl (by first | exact sideN | exact sideT (by omega)) ?_ | refine gT rfl rfl (by omega) ?_ | refine gF rfl rfl (by omega) ?_ | refine gNT rfl rfl (by omega) ?_ | refine gNF rfl rfl (by omega) ?_ | fail)
   refine dg_start ?_
   repeat' (first | refine dgp tab_ok rfl (by first | exact sideN | exact sideT (by omega)) ?_ | refine dT rfl rfl (by omega) ?_ | refine dF rfl rfl (by omega) ?_ | refine dNT rfl rfl (by omega) ?_ | refine dNF rfl rfl (by omega) ?_ | fail)
   refine dg_end mixed rfl ?_
   repeat' (first | refine stp tab_ok rfl (by first | exact sideN | exact sideT (by omega)) ?_ | refine gT rfl rfl (by omega) ?_ | refine gF rfl rfl (by omega) ?_ | refine gNT rfl rfl (by omega) ?_ | refine gNF rfl rfl (by omega) ?_ | fail)
   exact good_ret tab_ok hX rfl (hsub _ _ (by omega) (fun i _ => rfl))
  by_cases h1 : t.leaps.length = 1
  ·have hc0 : ((recs t).getD 0 cr0).corr ≠ 0 := by
    rw [recs_lo t 0 (by omega)]
    have := (hL 0 (by omega)).step
    show sumAt t.leaps 1 ≠ 0
    simp only [sumAt]
    omega
   refine AC.enter Tryz.func127 Tryz.ntmps127 rfl rfl rfl (fun F hX => ?_)
   repeat' (first | refine stp tab_ok rfl (by first | exact sideN | exact sideT (by omega)) ?_ | refine gT rfl rfl (by omega) ?_ | refine gF rfl rfl (by omega) ?_ | refine gNT rfl rfl (by omega) ?_ | refine gNF rfl rfl (by omega) ?_ | fail)
   simp only [Int.toNat_zero]
   repeat' (first | refine stp tab_ok rfl (by first | exact sideN | exact sideT (by omega)) ?_ | refine gT rfl rfl (by omega) ?_ | refine gF rfl rfl (by omega) ?_ | refine gNT rfl rfl (by omega) ?_ | refine gNF rfl rfl (by omega) ?_ | fail)
   refine dg_start ?_
   repeat' (first | refine dgp tab_ok rfl (by first | exact sideN | exact sideT (by omega)) ?_ | refine dT rfl rfl (by omega) ?_ | refine dF rfl rfl (by omega) ?_ | refine dNT rfl rfl (by omega) ?_ | refine dNF rfl rfl (by omega) ?_ | fail)
   refine dg_end mixed rfl ?_
   repeat' (first | refine stp tab_ok rfl (by first | exact sideN | exact sideT (by omega)) ?_ | refine gT rfl rfl (by omega) ?_ | refine gF rfl rfl (by omega) ?_ | refine gNT rfl rfl (by omega) ?_ | refine gNF rfl rfl (by omega) ?_ | fail)
   exact good_ret tab_ok hX rfl (hsub _ _ (by omega) (fun i _ => rfl))
  ·have e1 : (((recs t).length : Int) - 1).toNat = t.leaps.length - 1 := by omega
   have e2 : (((recs t).length : Int) - 1 - 1).toNat = t.leaps.length - 2 := by omega
   have hc0 : ((recs t).getD (t.leaps.length - 1) cr0).corr ≠ ((recs t).getD (t.leaps.length - 2) cr0).corr := by
    rw [recs_lo t _ (by omega), recs_lo t _ (by omega)]
    have := (hL (t.leaps.length - 1) (by omega)).step
    show sumAt t.leaps (t.leaps.length - 1 + 1) ≠ sumAt t.leaps (t.leaps.length - 2 + 1)
    rw [show t.leaps.length - 2 + 1 = t.leaps.length - 1 by omega]
    show sumAt t.leaps (t.leaps.length - 1) + _ ≠ _
    omega
   refine AC.enter Tryz.func127 Tryz.ntmps127 rfl rfl rfl (fun F hX => ?_)
   repeat' (first | refine stp tab_ok rfl (by first | exact sideN | exact sideT (by omega)) ?_ | refine gT rfl rfl (by omega) ?_ | refine gF rfl rfl (by omega) ?_ | refine gNT rfl rfl (by omega) ?_ | refine gNF rfl rfl (by omega) ?_ | fail)
   refine dg_start ?_
   repeat' (first | refine dgp tab_ok rfl (by first | exact sideN | exact sideT (by omega)) ?_ | refine dT rfl rfl (by omega) ?_ | refine dF rfl rfl (by omega) ?_ | refine dNT rfl rfl (by omega) ?_ | refine dNF rfl rfl (by omega) ?_ | fail)
   simp only [e1, e2]
   repeat' (first | refine dgp tab_ok rfl (by first | exact sideN | exact sideT (by omega)) ?_ | refine dT rfl rfl (by omega) ?_ | refine dF rfl rfl (by omega) ?_ | refine dNT rfl rfl (by omega) ?_ | refine dNF rfl rfl (by omega) ?_ | fail)
   refine dg_end mixed rfl ?_
   repeat' (first | refine stp tab_ok rfl (by first | exact sideN | exact sideT (by omega)) ?_ | refine gT rfl rfl (by omega) ?_ | refine gF rfl rfl (by omega) ?_ | refine gNT rfl rfl (by omega) ?_ | refine gNF rfl rfl (by omega) ?_ | fail)
   exact good_ret tab_ok hX rfl (hsub _ _ (by omega) (fun i _ => rfl))
end Go.Proofs.YthjldemjipnmdaaGreatDoor.Sx
