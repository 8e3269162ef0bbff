/-
  Facts on the program's types, by program (hl.py).
-/
import Derived.Test.YtkffjbijamfnoaaGreatHlKinds
namespace Go.Proofs.YtkffjbijamfnoaaGreat
open Go.RowKit
theorem t2 : TyF Tryz.prog 2 false (.int .i64 0) 1 8 := TyF.of (by kernel_rfl) Tryz.underlying2
theorem t3 : TyF Tryz.prog 3 false (.int .i64 0) 1 8 := TyF.of (by kernel_rfl) Tryz.underlying3
theorem t4 : TyF Tryz.prog 4 false (.bool false) 1 1 := TyF.of (by kernel_rfl) Tryz.underlying4
theorem t22 : TyF Tryz.prog 22 false (.slice none 0 0) 1 24 := TyF.of (by kernel_rfl) Tryz.underlying22
theorem t24 : TyF Tryz.prog 24 false (.slice none 0 0) 1 24 := TyF.of (by kernel_rfl) Tryz.underlying24
theorem t25 : TyF Tryz.prog 25 false (.slice none 0 0) 1 24 := TyF.of (by kernel_rfl) Tryz.underlying25
theorem t27 : TyF Tryz.prog 27 true (.agg #[(.int .i64 0), (.int .i64 0), (.slice none 0 0)]) 3 40 := TyF.of (by kernel_rfl) Tryz.underlying27
theorem t29 : TyF Tryz.prog 29 true (.agg #[(.int .i64 0), (.int .i64 0), (.int .i64 0)]) 3 24 := TyF.of (by kernel_rfl) Tryz.underlying29
theorem t31 : TyF Tryz.prog 31 true (.agg #[(.int .i64 0), (.slice none 0 0), (.int .i64 0), (.int .i64 0), (.int .i64 0), (.slice none 0 0), (.int .i64 0), (.int .i64 0), (.int .i64 0), (.int .i64 0)]) 10 112 := TyF.of (by kernel_rfl) Tryz.underlying31
theorem t32 : TyF Tryz.prog 32 false (.slice none 0 0) 1 24 := TyF.of (by kernel_rfl) Tryz.underlying32
theorem t34 : TyF Tryz.prog 34 true (.agg #[(.slice none 0 0)]) 1 24 := TyF.of (by kernel_rfl) Tryz.underlying34
theorem t36 : TyF Tryz.prog 36 false (.slice none 0 0) 1 24 := TyF.of (by kernel_rfl) Tryz.underlying36
theorem t39 : TyF Tryz.prog 39 false (.slice none 0 0) 1 24 := TyF.of (by kernel_rfl) Tryz.underlying39
theorem t40 : TyF Tryz.prog 40 false (.slice none 0 0) 1 24 := TyF.of (by kernel_rfl) Tryz.underlying40
theorem t42 : TyF Tryz.prog 42 true (.agg #[(.slice none 0 0), (.slice none 0 0)]) 2 48 := TyF.of (by kernel_rfl) Tryz.underlying42
theorem t44 : TyF Tryz.prog 44 false (.pointer none) 1 8 := TyF.of (by kernel_rfl) Tryz.underlying44
theorem t47 : TyF Tryz.prog 47 false (.slice none 0 0) 1 24 := TyF.of (by kernel_rfl) Tryz.underlying47
theorem t51 : TyF Tryz.prog 51 false (.int .u64 0) 1 8 := TyF.of (by kernel_rfl) Tryz.underlying51
theorem t52 : TyF Tryz.prog 52 false (.slice none 0 0) 1 24 := TyF.of (by kernel_rfl) Tryz.underlying52
theorem t53 : TyF Tryz.prog 53 false (.slice none 0 0) 1 24 := TyF.of (by kernel_rfl) Tryz.underlying53
theorem t55 : TyF Tryz.prog 55 true (.agg #[(.int .i64 0), (.int .i64 0), (.int .i64 0), (.slice none 0 0), (.slice none 0 0), (.slice none 0 0)]) 6 96 := TyF.of (by kernel_rfl) Tryz.underlying55
theorem t59 : TyF Tryz.prog 59 false (.slice none 0 0) 1 24 := TyF.of (by kernel_rfl) Tryz.underlying59
theorem t70 : TyF Tryz.prog 70 true (.agg #[(.int .i64 0), (.int .i64 0), (.int .i64 0)]) 3 24 := TyF.of (by kernel_rfl) Tryz.underlying70
theorem t72 : TyF Tryz.prog 72 true (.agg #[(.int .i64 0), (.int .i64 0), (.int .i64 0), (.int .i64 0), (.int .i64 0), (.int .u64 0), (.bool false)]) 7 56 := TyF.of (by kernel_rfl) Tryz.underlying72
theorem t74 : TyF Tryz.prog 74 true (.agg #[(.int .i64 0), (.int .i64 0), (.int .i64 0), (.int .i64 0), (.int .i64 0), (.int .i64 0), (.int .i64 0), (.int .u64 0), (.bool false), (.int .u64 0), (.int .i64 0), (.int .i64 0), (.int .i64 0), (.slice none 0 0), (.slice none 0 0), (.slice none 0 0)]) 16 176 := TyF.of (by kernel_rfl) Tryz.underlying74
theorem t82 : TyF Tryz.prog 82 false (.slice none 0 0) 1 24 := TyF.of (by kernel_rfl) Tryz.underlying82
theorem t85 : TyF Tryz.prog 85 false (.slice none 0 0) 1 24 := TyF.of (by kernel_rfl) Tryz.underlying85
theorem t86 : TyF Tryz.prog 86 false (.slice none 0 0) 1 24 := TyF.of (by kernel_rfl) Tryz.underlying86
theorem t88 : TyF Tryz.prog 88 true (.agg #[(.slice none 0 0), (.slice none 0 0), (.slice none 0 0)]) 3 72 := TyF.of (by kernel_rfl) Tryz.underlying88
theorem t100 : TyF Tryz.prog 100 true (.agg #[(.int .i64 0), (.int .i64 0), (.int .i64 0), (.int .i64 0), (.int .i64 0)]) 5 40 := TyF.of (by kernel_rfl) Tryz.underlying100
theorem t109 : TyF Tryz.prog 109 true (.agg #[(.int .i64 0), (.int .i64 0), (.int .i64 0), (.int .i64 0), (.int .i64 0), (.int .i64 0), (.int .u64 0), (.bool false)]) 8 64 := TyF.of (by kernel_rfl) Tryz.underlying109
theorem t115 : TyF Tryz.prog 115 true (.agg #[(.int .i64 0), (.int .i64 0)]) 2 16 := TyF.of (by kernel_rfl) Tryz.underlying115
theorem t118 : TyF Tryz.prog 118 true (.agg #[(.int .i64 0), (.int .i64 0), (.int .i64 0)]) 3 24 := TyF.of (by kernel_rfl) Tryz.underlying118
theorem t119 : TyF Tryz.prog 119 false (.slice none 0 0) 1 24 := TyF.of (by kernel_rfl) Tryz.underlying119
theorem t120 : TyF Tryz.prog 120 false (.pointer none) 1 8 := TyF.of (by kernel_rfl) Tryz.underlying120
theorem t121 : TyF Tryz.prog 121 false (.pointer none) 1 8 := TyF.of (by kernel_rfl) Tryz.underlying121
theorem t123 : TyF Tryz.prog 123 true (.agg #[(.int .u64 0), (.int .i64 0), (.int .i64 0), (.int .i64 0), (.slice none 0 0), (.slice none 0 0), (.slice none 0 0)]) 7 104 := TyF.of (by kernel_rfl) Tryz.underlying123
theorem t124 : TyF Tryz.prog 124 false (.slice none 0 0) 1 24 := TyF.of (by kernel_rfl) Tryz.underlying124
theorem t125 : TyF Tryz.prog 125 false .nilFunc 1 8 := TyF.of (by kernel_rfl) Tryz.underlying125
theorem t127 : TyF Tryz.prog 127 true (.agg #[(.int .i64 0), (.int .i64 0), (.slice none 0 0), (.int .i64 0), (.int .i64 0), (.int .i64 0), (.slice none 0 0), (.int .i64 0), (.int .i64 0), (.int .i64 0), (.int .i64 0), (.slice none 0 0), (.slice none 0 0), (.slice none 0 0), (.slice none 0 0), (.int .i64 0), (.int .i64 0), (.int .u64 0), (.pointer none), (.pointer none), (.int .u64 0), (.int .i64 0), (.int .i64 0), (.int .i64 0), (.slice none 0 0), (.slice none 0 0), (.slice none 0 0), (.slice none 0 0), .nilFunc]) 29 392 := TyF.of (by kernel_rfl) Tryz.underlying127
theorem t138 : TyF Tryz.prog 138 true (.agg #[(.int .i64 0), (.int .i64 0), (.int .i64 0), (.int .i64 0), (.int .i64 0), (.int .u64 0), (.int .u64 0)]) 7 56 := TyF.of (by kernel_rfl) Tryz.underlying138
theorem t141 : TyF Tryz.prog 141 false .nilFunc 1 8 := TyF.of (by kernel_rfl) Tryz.underlying141
theorem t149 : TyF Tryz.prog 149 true (.agg #[(.slice none 0 0), (.slice none 0 0)]) 2 48 := TyF.of (by kernel_rfl) Tryz.underlying149
theorem t161 : TyF Tryz.prog 161 true (.agg #[(.int .i64 0), (.slice none 0 0), (.int .i64 0), (.int .i64 0), (.int .i64 0), (.slice none 0 0), (.int .i64 0), (.int .i64 0), (.int .i64 0), (.int .i64 0), (.slice none 0 0), (.int .i64 0), (.int .i64 0)]) 13 152 := TyF.of (by kernel_rfl) Tryz.underlying161
theorem t164 : TyF Tryz.prog 164 true (.agg #[(.int .i64 0), (.int .i64 0)]) 2 16 := TyF.of (by kernel_rfl) Tryz.underlying164
theorem t166 : TyF Tryz.prog 166 true (.agg #[(.int .i64 0), (.int .i64 0), (.int .i64 0), (.int .i64 0)]) 4 32 := TyF.of (by kernel_rfl) Tryz.underlying166
theorem t180 : TyF Tryz.prog 180 true (.agg #[(.int .i64 0), (.bool false), (.int .i64 0), (.int .i64 0)]) 4 32 := TyF.of (by kernel_rfl) Tryz.underlying180
theorem t186 : TyF Tryz.prog 186 false (.slice none 0 0) 1 24 := TyF.of (by kernel_rfl) Tryz.underlying186
theorem t188 : TyF Tryz.prog 188 true (.agg #[(.slice none 0 0), (.slice none 0 0), (.slice none 0 0), (.int .u64 0), (.int .u64 0), (.bool false), (.slice none 0 0)]) 7 120 := TyF.of (by kernel_rfl) Tryz.underlying188
theorem t193 : TyF Tryz.prog 193 false (.pointer none) 1 8 := TyF.of (by kernel_rfl) Tryz.underlying193
theorem t195 : TyF Tryz.prog 195 false .nilIface 1 16 := TyF.of (by kernel_rfl) Tryz.underlying195
theorem t197 : TyF Tryz.prog 197 true (.agg #[.nilIface]) 1 16 := TyF.of (by kernel_rfl) Tryz.underlying197
theorem t202 : TyF Tryz.prog 202 true (.agg #[(.pointer none), (.bool false), (.int .i64 0), (.int .i64 0)]) 4 32 := TyF.of (by kernel_rfl) Tryz.underlying202
theorem t224 : TyF Tryz.prog 224 true (.agg #[.nilFunc]) 1 8 := TyF.of (by kernel_rfl) Tryz.underlying224
theorem t228 : TyF Tryz.prog 228 false (.map none) 1 8 := TyF.of (by kernel_rfl) Tryz.underlying228
theorem t229 : TyF Tryz.prog 229 false (.map none) 1 8 := TyF.of (by kernel_rfl) Tryz.underlying229
theorem t230 : TyF Tryz.prog 230 false (.slice none 0 0) 1 24 := TyF.of (by kernel_rfl) Tryz.underlying230
theorem t232 : TyF Tryz.prog 232 true (.agg #[(.int .i64 0), (.int .i64 0), (.int .i64 0), (.int .i64 0), (.map none), (.slice none 0 0), (.map none)]) 7 72 := TyF.of (by kernel_rfl) Tryz.underlying232
theorem t236 : TyF Tryz.prog 236 true (.agg #[(.int .i64 0), (.int .i64 0), (.int .i64 0)]) 3 24 := TyF.of (by kernel_rfl) Tryz.underlying236
theorem t249 : TyF Tryz.prog 249 true (.agg #[(.int .i64 0), (.int .i64 0), (.int .i64 0)]) 3 24 := TyF.of (by kernel_rfl) Tryz.underlying249
theorem t252 : TyF Tryz.prog 252 false .nilFunc 1 8 := TyF.of (by kernel_rfl) Tryz.underlying252
theorem t269 : TyF Tryz.prog 269 false .nilFunc 1 8 := TyF.of (by kernel_rfl) Tryz.underlying269
theorem t271 : TyF Tryz.prog 271 true (.agg #[(.int .i64 0), .nilFunc, .nilFunc]) 3 24 := TyF.of (by kernel_rfl) Tryz.underlying271
theorem t286 : TyF Tryz.prog 286 true (.agg #[(.int .i64 0), (.int .i64 0), (.int .i64 0)]) 3 24 := TyF.of (by kernel_rfl) Tryz.underlying286
theorem t288 : TyF Tryz.prog 288 false (.int .u64 0) 1 8 := TyF.of (by kernel_rfl) Tryz.underlying288
theorem fl27_0 : FldF Tryz.prog 27 0 0 := fun _ _ => by kernel_rfl
theorem fl27_1 : FldF Tryz.prog 27 1 1 := fun _ _ => by kernel_rfl
theorem fl27_2 : FldF Tryz.prog 27 2 2 := fun _ _ => by kernel_rfl
theorem fl29_0 : FldF Tryz.prog 29 0 0 := fun _ _ => by kernel_rfl
theorem fl29_1 : FldF Tryz.prog 29 1 1 := fun _ _ => by kernel_rfl
theorem fl29_2 : FldF Tryz.prog 29 2 2 := fun _ _ => by kernel_rfl
theorem fl31_0 : FldF Tryz.prog 31 0 0 := fun _ _ => by kernel_rfl
theorem fl31_1 : FldF Tryz.prog 31 1 1 := fun _ _ => by kernel_rfl
theorem fl31_2 : FldF Tryz.prog 31 2 2 := fun _ _ => by kernel_rfl
theorem fl31_3 : FldF Tryz.prog 31 3 3 := fun _ _ => by kernel_rfl
theorem fl31_4 : FldF Tryz.prog 31 4 6 := fun _ _ => by kernel_rfl
theorem fl31_5 : FldF Tryz.prog 31 5 7 := fun _ _ => by kernel_rfl
theorem fl34_0 : FldF Tryz.prog 34 0 0 := fun _ _ => by kernel_rfl
theorem fl42_0 : FldF Tryz.prog 42 0 0 := fun _ _ => by kernel_rfl
theorem fl42_1 : FldF Tryz.prog 42 1 1 := fun _ _ => by kernel_rfl
theorem fl55_0 : FldF Tryz.prog 55 0 0 := fun _ _ => by kernel_rfl
theorem fl55_1 : FldF Tryz.prog 55 1 1 := fun _ _ => by kernel_rfl
theorem fl55_2 : FldF Tryz.prog 55 2 2 := fun _ _ => by kernel_rfl
theorem fl55_3 : FldF Tryz.prog 55 3 3 := fun _ _ => by kernel_rfl
theorem fl55_4 : FldF Tryz.prog 55 4 4 := fun _ _ => by kernel_rfl
theorem fl55_5 : FldF Tryz.prog 55 5 5 := fun _ _ => by kernel_rfl
theorem fl70_0 : FldF Tryz.prog 70 0 0 := fun _ _ => by kernel_rfl
theorem fl70_1 : FldF Tryz.prog 70 1 1 := fun _ _ => by kernel_rfl
theorem fl70_2 : FldF Tryz.prog 70 2 2 := fun _ _ => by kernel_rfl
theorem fl72_0 : FldF Tryz.prog 72 0 0 := fun _ _ => by kernel_rfl
theorem fl72_1 : FldF Tryz.prog 72 1 1 := fun _ _ => by kernel_rfl
theorem fl72_2 : FldF Tryz.prog 72 2 4 := fun _ _ => by kernel_rfl
theorem fl72_3 : FldF Tryz.prog 72 3 5 := fun _ _ => by kernel_rfl
theorem fl72_4 : FldF Tryz.prog 72 4 6 := fun _ _ => by kernel_rfl
theorem fl74_1 : FldF Tryz.prog 74 1 1 := fun _ _ => by kernel_rfl
theorem fl74_2 : FldF Tryz.prog 74 2 2 := fun _ _ => by kernel_rfl
theorem fl88_0 : FldF Tryz.prog 88 0 0 := fun _ _ => by kernel_rfl
theorem fl88_1 : FldF Tryz.prog 88 1 1 := fun _ _ => by kernel_rfl
theorem fl88_2 : FldF Tryz.prog 88 2 2 := fun _ _ => by kernel_rfl
theorem fl100_0 : FldF Tryz.prog 100 0 0 := fun _ _ => by kernel_rfl
theorem fl100_1 : FldF Tryz.prog 100 1 1 := fun _ _ => by kernel_rfl
theorem fl100_2 : FldF Tryz.prog 100 2 4 := fun _ _ => by kernel_rfl
theorem fl109_0 : FldF Tryz.prog 109 0 0 := fun _ _ => by kernel_rfl
theorem fl109_1 : FldF Tryz.prog 109 1 1 := fun _ _ => by kernel_rfl
theorem fl115_0 : FldF Tryz.prog 115 0 0 := fun _ _ => by kernel_rfl
theorem fl115_1 : FldF Tryz.prog 115 1 1 := fun _ _ => by kernel_rfl
theorem fl118_0 : FldF Tryz.prog 118 0 0 := fun _ _ => by kernel_rfl
theorem fl118_1 : FldF Tryz.prog 118 1 1 := fun _ _ => by kernel_rfl
theorem fl118_2 : FldF Tryz.prog 118 2 2 := fun _ _ => by kernel_rfl
theorem fl123_0 : FldF Tryz.prog 123 0 0 := fun _ _ => by kernel_rfl
theorem fl123_1 : FldF Tryz.prog 123 1 1 := fun _ _ => by kernel_rfl
theorem fl127_0 : FldF Tryz.prog 127 0 0 := fun _ _ => by kernel_rfl
theorem fl127_1 : FldF Tryz.prog 127 1 1 := fun _ _ => by kernel_rfl
theorem fl127_2 : FldF Tryz.prog 127 2 11 := fun _ _ => by kernel_rfl
theorem fl127_3 : FldF Tryz.prog 127 3 12 := fun _ _ => by kernel_rfl
theorem fl127_4 : FldF Tryz.prog 127 4 13 := fun _ _ => by kernel_rfl
theorem fl127_5 : FldF Tryz.prog 127 5 14 := fun _ _ => by kernel_rfl
theorem fl127_6 : FldF Tryz.prog 127 6 15 := fun _ _ => by kernel_rfl
theorem fl127_7 : FldF Tryz.prog 127 7 16 := fun _ _ => by kernel_rfl
theorem fl127_8 : FldF Tryz.prog 127 8 17 := fun _ _ => by kernel_rfl
theorem fl127_9 : FldF Tryz.prog 127 9 18 := fun _ _ => by kernel_rfl
theorem fl127_10 : FldF Tryz.prog 127 10 19 := fun _ _ => by kernel_rfl
theorem fl127_11 : FldF Tryz.prog 127 11 20 := fun _ _ => by kernel_rfl
theorem fl127_12 : FldF Tryz.prog 127 12 27 := fun _ _ => by kernel_rfl
theorem fl127_13 : FldF Tryz.prog 127 13 28 := fun _ _ => by kernel_rfl
theorem fl138_0 : FldF Tryz.prog 138 0 0 := fun _ _ => by kernel_rfl
theorem fl138_1 : FldF Tryz.prog 138 1 1 := fun _ _ => by kernel_rfl
theorem fl138_2 : FldF Tryz.prog 138 2 4 := fun _ _ => by kernel_rfl
theorem fl138_3 : FldF Tryz.prog 138 3 5 := fun _ _ => by kernel_rfl
theorem fl138_4 : FldF Tryz.prog 138 4 6 := fun _ _ => by kernel_rfl
theorem fl149_0 : FldF Tryz.prog 149 0 0 := fun _ _ => by kernel_rfl
theorem fl149_1 : FldF Tryz.prog 149 1 1 := fun _ _ => by kernel_rfl
theorem fl161_0 : FldF Tryz.prog 161 0 0 := fun _ _ => by kernel_rfl
theorem fl161_1 : FldF Tryz.prog 161 1 10 := fun _ _ => by kernel_rfl
theorem fl161_2 : FldF Tryz.prog 161 2 11 := fun _ _ => by kernel_rfl
theorem fl161_3 : FldF Tryz.prog 161 3 12 := fun _ _ => by kernel_rfl
theorem fl164_0 : FldF Tryz.prog 164 0 0 := fun _ _ => by kernel_rfl
theorem fl164_1 : FldF Tryz.prog 164 1 1 := fun _ _ => by kernel_rfl
theorem fl166_0 : FldF Tryz.prog 166 0 0 := fun _ _ => by kernel_rfl
theorem fl166_1 : FldF Tryz.prog 166 1 1 := fun _ _ => by kernel_rfl
theorem fl166_2 : FldF Tryz.prog 166 2 3 := fun _ _ => by kernel_rfl
theorem fl180_0 : FldF Tryz.prog 180 0 0 := fun _ _ => by kernel_rfl
theorem fl180_1 : FldF Tryz.prog 180 1 1 := fun _ _ => by kernel_rfl
theorem fl180_2 : FldF Tryz.prog 180 2 2 := fun _ _ => by kernel_rfl
theorem fl180_3 : FldF Tryz.prog 180 3 3 := fun _ _ => by kernel_rfl
theorem fl188_0 : FldF Tryz.prog 188 0 0 := fun _ _ => by kernel_rfl
theorem fl188_1 : FldF Tryz.prog 188 1 1 := fun _ _ => by kernel_rfl
theorem fl188_2 : FldF Tryz.prog 188 2 2 := fun _ _ => by kernel_rfl
theorem fl188_3 : FldF Tryz.prog 188 3 3 := fun _ _ => by kernel_rfl
theorem fl188_4 : FldF Tryz.prog 188 4 4 := fun _ _ => by kernel_rfl
theorem fl188_5 : FldF Tryz.prog 188 5 5 := fun _ _ => by kernel_rfl
theorem fl188_6 : FldF Tryz.prog 188 6 6 := fun _ _ => by kernel_rfl
theorem fl197_0 : FldF Tryz.prog 197 0 0 := fun _ _ => by kernel_rfl
theorem fl202_0 : FldF Tryz.prog 202 0 0 := fun _ _ => by kernel_rfl
theorem fl202_1 : FldF Tryz.prog 202 1 1 := fun _ _ => by kernel_rfl
theorem fl202_2 : FldF Tryz.prog 202 2 2 := fun _ _ => by kernel_rfl
theorem fl202_3 : FldF Tryz.prog 202 3 3 := fun _ _ => by kernel_rfl
theorem fl224_0 : FldF Tryz.prog 224 0 0 := fun _ _ => by kernel_rfl
theorem fl232_0 : FldF Tryz.prog 232 0 0 := fun _ _ => by kernel_rfl
theorem fl232_1 : FldF Tryz.prog 232 1 3 := fun _ _ => by kernel_rfl
theorem fl232_2 : FldF Tryz.prog 232 2 4 := fun _ _ => by kernel_rfl
theorem fl232_3 : FldF Tryz.prog 232 3 5 := fun _ _ => by kernel_rfl
theorem fl232_4 : FldF Tryz.prog 232 4 6 := fun _ _ => by kernel_rfl
theorem fl236_0 : FldF Tryz.prog 236 0 0 := fun _ _ => by kernel_rfl
theorem fl236_1 : FldF Tryz.prog 236 1 1 := fun _ _ => by kernel_rfl
theorem fl271_0 : FldF Tryz.prog 271 0 0 := fun _ _ => by kernel_rfl
theorem fl271_1 : FldF Tryz.prog 271 1 1 := fun _ _ => by kernel_rfl
theorem fl271_2 : FldF Tryz.prog 271 2 2 := fun _ _ => by kernel_rfl
theorem fl286_0 : FldF Tryz.prog 286 0 0 := fun _ _ => by kernel_rfl
theorem fl286_1 : FldF Tryz.prog 286 1 1 := fun _ _ => by kernel_rfl
theorem mixed : Tryz.prog.follows .mixedOrders = true := by kernel_rfl
end Go.Proofs.YtkffjbijamfnoaaGreat
