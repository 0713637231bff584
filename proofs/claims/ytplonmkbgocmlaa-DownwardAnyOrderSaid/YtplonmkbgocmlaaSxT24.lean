/-
  What functions of the given program hand back, by walks over its code, and plain laws on that. No condition.
-/
import Derived.Test.YtplonmkbgocmlaaSxLibB
import Derived.Test.YtplonmkbgocmlaaChecked
namespace Go.Proofs
open Go Go.Sx

instance Try.sxty1 : TyOK Try.prog 1 ⟨.other, 1, 8, .nilFunc⟩ := ⟨by kernel_rfl, by kernel_rfl⟩
instance Try.sxty2 : TyOK Try.prog 2 ⟨(.int .i64), 1, 8, .int .i64 0⟩ := ⟨by kernel_rfl, by kernel_rfl⟩
instance Try.sxty3 : TyOK Try.prog 3 ⟨(.int .i64), 1, 8, .int .i64 0⟩ := ⟨by kernel_rfl, by kernel_rfl⟩
instance Try.sxty4 : TyOK Try.prog 4 ⟨.bool, 1, 1, .bool false⟩ := ⟨by kernel_rfl, by kernel_rfl⟩
instance Try.sxty5 : TyOK Try.prog 5 ⟨(.int .u8), 1, 1, .int .u8 0⟩ := ⟨by kernel_rfl, by kernel_rfl⟩
instance Try.sxty6 : TyOK Try.prog 6 ⟨(.int .u8), 1, 1, .int .u8 0⟩ := ⟨by kernel_rfl, by kernel_rfl⟩
instance Try.sxty7 : TyOK Try.prog 7 ⟨(.struct [(0, 2), (1, 3), (2, 4), (3, 6)]), 4, 24, .agg #[.int .i64 0, .int .i64 0, .bool false, .int .u8 0]⟩ := ⟨by kernel_rfl, by kernel_rfl⟩
instance Try.sxty8 : TyOK Try.prog 8 ⟨(.struct [(0, 2), (1, 3), (2, 4), (3, 6)]), 4, 24, .agg #[.int .i64 0, .int .i64 0, .bool false, .int .u8 0]⟩ := ⟨by kernel_rfl, by kernel_rfl⟩
instance Try.sxty9 : TyOK Try.prog 9 ⟨.string, 1, 16, .string ⟨#[]⟩⟩ := ⟨by kernel_rfl, by kernel_rfl⟩
instance Try.sxty10 : TyOK Try.prog 10 ⟨.string, 1, 16, .string ⟨#[]⟩⟩ := ⟨by kernel_rfl, by kernel_rfl⟩
instance Try.sxty11 : TyOK Try.prog 11 ⟨.string, 1, 16, .string ⟨#[]⟩⟩ := ⟨by kernel_rfl, by kernel_rfl⟩
instance Try.sxty12 : TyOK Try.prog 12 ⟨(.int .u64), 1, 8, .int .u64 0⟩ := ⟨by kernel_rfl, by kernel_rfl⟩
instance Try.sxty13 : TyOK Try.prog 13 ⟨(.struct [(0, 9), (1, 12)]), 2, 24, .agg #[.string ⟨#[]⟩, .int .u64 0]⟩ := ⟨by kernel_rfl, by kernel_rfl⟩
instance Try.sxty14 : TyOK Try.prog 14 ⟨(.struct [(0, 9), (1, 12)]), 2, 24, .agg #[.string ⟨#[]⟩, .int .u64 0]⟩ := ⟨by kernel_rfl, by kernel_rfl⟩
instance Try.sxty15 : TyOK Try.prog 15 ⟨(.pointer 82), 1, 8, .pointer none⟩ := ⟨by kernel_rfl, by kernel_rfl⟩
instance Try.sxty16 : TyOK Try.prog 16 ⟨(.pointer 85), 1, 8, .pointer none⟩ := ⟨by kernel_rfl, by kernel_rfl⟩
instance Try.sxty17 : TyOK Try.prog 17 ⟨(.pointer 95), 1, 8, .pointer none⟩ := ⟨by kernel_rfl, by kernel_rfl⟩
instance Try.sxty18 : TyOK Try.prog 18 ⟨(.struct [(0, 17)]), 1, 8, .agg #[.pointer none]⟩ := ⟨by kernel_rfl, by kernel_rfl⟩
instance Try.sxty19 : TyOK Try.prog 19 ⟨(.struct [(0, 17)]), 1, 8, .agg #[.pointer none]⟩ := ⟨by kernel_rfl, by kernel_rfl⟩
instance Try.sxty20 : TyOK Try.prog 20 ⟨.other, 1, 16, .nilIface⟩ := ⟨by kernel_rfl, by kernel_rfl⟩
instance Try.sxty21 : TyOK Try.prog 21 ⟨(.int .i32), 1, 4, .int .i32 0⟩ := ⟨by kernel_rfl, by kernel_rfl⟩
instance Try.sxty22 : TyOK Try.prog 22 ⟨(.slice 24), 1, 24, .slice none 0 0⟩ := ⟨by kernel_rfl, by kernel_rfl⟩
instance Try.sxty23 : TyOK Try.prog 23 ⟨(.struct [(0, 3), (1, 3), (2, 3)]), 3, 24, .agg #[.int .i64 0, .int .i64 0, .int .i64 0]⟩ := ⟨by kernel_rfl, by kernel_rfl⟩
instance Try.sxty24 : TyOK Try.prog 24 ⟨(.struct [(0, 3), (1, 3), (2, 3)]), 3, 24, .agg #[.int .i64 0, .int .i64 0, .int .i64 0]⟩ := ⟨by kernel_rfl, by kernel_rfl⟩
instance Try.sxty25 : TyOK Try.prog 25 ⟨.other, 1, 8, .nilFunc⟩ := ⟨by kernel_rfl, by kernel_rfl⟩
instance Try.sxty26 : TyOK Try.prog 26 ⟨(.int .i64), 1, 8, .int .i64 0⟩ := ⟨by kernel_rfl, by kernel_rfl⟩
instance Try.sxty28 : TyOK Try.prog 28 ⟨.other, 1, 8, .nilFunc⟩ := ⟨by kernel_rfl, by kernel_rfl⟩
instance Try.sxty29 : TyOK Try.prog 29 ⟨.other, 1, 8, .nilFunc⟩ := ⟨by kernel_rfl, by kernel_rfl⟩
instance Try.sxty30 : TyOK Try.prog 30 ⟨.other, 1, 8, .nilFunc⟩ := ⟨by kernel_rfl, by kernel_rfl⟩
instance Try.sxty31 : TyOK Try.prog 31 ⟨.other, 1, 8, .nilFunc⟩ := ⟨by kernel_rfl, by kernel_rfl⟩
instance Try.sxty32 : TyOK Try.prog 32 ⟨(.slice 3), 1, 24, .slice none 0 0⟩ := ⟨by kernel_rfl, by kernel_rfl⟩
instance Try.sxty34 : TyOK Try.prog 34 ⟨.other, 1, 8, .nilFunc⟩ := ⟨by kernel_rfl, by kernel_rfl⟩
instance Try.sxty36 : TyOK Try.prog 36 ⟨.other, 1, 8, .nilFunc⟩ := ⟨by kernel_rfl, by kernel_rfl⟩
instance Try.sxty37 : TyOK Try.prog 37 ⟨.other, 1, 8, .nilFunc⟩ := ⟨by kernel_rfl, by kernel_rfl⟩
instance Try.sxty38 : TyOK Try.prog 38 ⟨(.slice 43), 1, 24, .slice none 0 0⟩ := ⟨by kernel_rfl, by kernel_rfl⟩
instance Try.sxty39 : TyOK Try.prog 39 ⟨(.slice 5), 1, 24, .slice none 0 0⟩ := ⟨by kernel_rfl, by kernel_rfl⟩
instance Try.sxty40 : TyOK Try.prog 40 ⟨.other, 1, 8, .nilFunc⟩ := ⟨by kernel_rfl, by kernel_rfl⟩
instance Try.sxty41 : TyOK Try.prog 41 ⟨.other, 1, 8, .nilFunc⟩ := ⟨by kernel_rfl, by kernel_rfl⟩
instance Try.sxty42 : TyOK Try.prog 42 ⟨.other, 1, 8, .nilFunc⟩ := ⟨by kernel_rfl, by kernel_rfl⟩
instance Try.sxty43 : TyOK Try.prog 43 ⟨(.array 2 5), 2, 2, .agg #[.int .u8 0, .int .u8 0]⟩ := ⟨by kernel_rfl, by kernel_rfl⟩
instance Try.sxty45 : TyOK Try.prog 45 ⟨.other, 1, 8, .nilFunc⟩ := ⟨by kernel_rfl, by kernel_rfl⟩
instance Try.sxty46 : TyOK Try.prog 46 ⟨.other, 1, 8, .nilFunc⟩ := ⟨by kernel_rfl, by kernel_rfl⟩
instance Try.sxty47 : TyOK Try.prog 47 ⟨.other, 1, 8, .nilFunc⟩ := ⟨by kernel_rfl, by kernel_rfl⟩
instance Try.sxty48 : TyOK Try.prog 48 ⟨.other, 1, 8, .nilFunc⟩ := ⟨by kernel_rfl, by kernel_rfl⟩
instance Try.sxty50 : TyOK Try.prog 50 ⟨.other, 1, 8, .nilFunc⟩ := ⟨by kernel_rfl, by kernel_rfl⟩
instance Try.sxty51 : TyOK Try.prog 51 ⟨.other, 1, 8, .nilFunc⟩ := ⟨by kernel_rfl, by kernel_rfl⟩
instance Try.sxty52 : TyOK Try.prog 52 ⟨.other, 1, 8, .nilFunc⟩ := ⟨by kernel_rfl, by kernel_rfl⟩
instance Try.sxty53 : TyOK Try.prog 53 ⟨.other, 1, 8, .nilFunc⟩ := ⟨by kernel_rfl, by kernel_rfl⟩
instance Try.sxty54 : TyOK Try.prog 54 ⟨.other, 1, 8, .nilFunc⟩ := ⟨by kernel_rfl, by kernel_rfl⟩
instance Try.sxty55 : TyOK Try.prog 55 ⟨.other, 1, 8, .nilFunc⟩ := ⟨by kernel_rfl, by kernel_rfl⟩
instance Try.sxty56 : TyOK Try.prog 56 ⟨.other, 1, 8, .nilFunc⟩ := ⟨by kernel_rfl, by kernel_rfl⟩
instance Try.sxty58 : TyOK Try.prog 58 ⟨.other, 1, 8, .nilFunc⟩ := ⟨by kernel_rfl, by kernel_rfl⟩
instance Try.sxty59 : TyOK Try.prog 59 ⟨.other, 1, 8, .nilFunc⟩ := ⟨by kernel_rfl, by kernel_rfl⟩
instance Try.sxty60 : TyOK Try.prog 60 ⟨.other, 1, 8, .nilFunc⟩ := ⟨by kernel_rfl, by kernel_rfl⟩
instance Try.sxty61 : TyOK Try.prog 61 ⟨.other, 1, 8, .nilFunc⟩ := ⟨by kernel_rfl, by kernel_rfl⟩
instance Try.sxty62 : TyOK Try.prog 62 ⟨.other, 1, 8, .nilFunc⟩ := ⟨by kernel_rfl, by kernel_rfl⟩
instance Try.sxty63 : TyOK Try.prog 63 ⟨.other, 1, 8, .nilFunc⟩ := ⟨by kernel_rfl, by kernel_rfl⟩
instance Try.sxty64 : TyOK Try.prog 64 ⟨.other, 1, 8, .nilFunc⟩ := ⟨by kernel_rfl, by kernel_rfl⟩
instance Try.sxty65 : TyOK Try.prog 65 ⟨.other, 1, 8, .nilFunc⟩ := ⟨by kernel_rfl, by kernel_rfl⟩
instance Try.sxty66 : TyOK Try.prog 66 ⟨.other, 1, 8, .nilFunc⟩ := ⟨by kernel_rfl, by kernel_rfl⟩
instance Try.sxty67 : TyOK Try.prog 67 ⟨.other, 1, 8, .nilFunc⟩ := ⟨by kernel_rfl, by kernel_rfl⟩
instance Try.sxty68 : TyOK Try.prog 68 ⟨.other, 1, 8, .nilFunc⟩ := ⟨by kernel_rfl, by kernel_rfl⟩
instance Try.sxty69 : TyOK Try.prog 69 ⟨.other, 1, 8, .nilFunc⟩ := ⟨by kernel_rfl, by kernel_rfl⟩
instance Try.sxty70 : TyOK Try.prog 70 ⟨.other, 1, 8, .nilFunc⟩ := ⟨by kernel_rfl, by kernel_rfl⟩
instance Try.sxty71 : TyOK Try.prog 71 ⟨(.array 32 4), 32, 32, .agg #[.bool false, .bool false, .bool false, .bool false, .bool false, .bool false, .bool false, .bool false, .bool false, .bool false, .bool false, .bool false, .bool false, .bool false, .bool false, .bool false, .bool false, .bool false, .bool false, .bool false, .bool false, .bool false, .bool false, .bool false, .bool false, .bool false, .bool false, .bool false, .bool false, .bool false, .bool false, .bool false]⟩ := ⟨by kernel_rfl, by kernel_rfl⟩
instance Try.sxty72 : TyOK Try.prog 72 ⟨.other, 1, 8, .nilFunc⟩ := ⟨by kernel_rfl, by kernel_rfl⟩
instance Try.sxty73 : TyOK Try.prog 73 ⟨.other, 1, 8, .nilFunc⟩ := ⟨by kernel_rfl, by kernel_rfl⟩
instance Try.sxty74 : TyOK Try.prog 74 ⟨.other, 1, 8, .nilFunc⟩ := ⟨by kernel_rfl, by kernel_rfl⟩
instance Try.sxty75 : TyOK Try.prog 75 ⟨.other, 1, 8, .nilFunc⟩ := ⟨by kernel_rfl, by kernel_rfl⟩
instance Try.sxty76 : TyOK Try.prog 76 ⟨.other, 1, 8, .nilFunc⟩ := ⟨by kernel_rfl, by kernel_rfl⟩
instance Try.sxty77 : TyOK Try.prog 77 ⟨(.int .u64), 1, 8, .int .u64 0⟩ := ⟨by kernel_rfl, by kernel_rfl⟩
instance Try.sxty78 : TyOK Try.prog 78 ⟨.other, 1, 8, .nilFunc⟩ := ⟨by kernel_rfl, by kernel_rfl⟩
instance Try.sxty79 : TyOK Try.prog 79 ⟨.other, 1, 8, .nilFunc⟩ := ⟨by kernel_rfl, by kernel_rfl⟩
instance Try.sxty80 : TyOK Try.prog 80 ⟨.other, 1, 8, .nilFunc⟩ := ⟨by kernel_rfl, by kernel_rfl⟩
instance Try.sxty81 : TyOK Try.prog 81 ⟨(.struct [(0, 17), (1, 17), (2, 17), (3, 9)]), 4, 40, .agg #[.pointer none, .pointer none, .pointer none, .string ⟨#[]⟩]⟩ := ⟨by kernel_rfl, by kernel_rfl⟩
instance Try.sxty82 : TyOK Try.prog 82 ⟨(.struct [(0, 17), (1, 17), (2, 17), (3, 9)]), 4, 40, .agg #[.pointer none, .pointer none, .pointer none, .string ⟨#[]⟩]⟩ := ⟨by kernel_rfl, by kernel_rfl⟩
instance Try.sxty83 : TyOK Try.prog 83 ⟨(.array 0 16), 0, 0, .agg #[]⟩ := ⟨by kernel_rfl, by kernel_rfl⟩
instance Try.sxty84 : TyOK Try.prog 84 ⟨(.struct [(0, 83)]), 0, 0, .agg #[]⟩ := ⟨by kernel_rfl, by kernel_rfl⟩
instance Try.sxty85 : TyOK Try.prog 85 ⟨(.struct [(0, 83)]), 0, 0, .agg #[]⟩ := ⟨by kernel_rfl, by kernel_rfl⟩
instance Try.sxty86 : TyOK Try.prog 86 ⟨.other, 1, 8, .nilFunc⟩ := ⟨by kernel_rfl, by kernel_rfl⟩
instance Try.sxty87 : TyOK Try.prog 87 ⟨(.int .u32), 1, 4, .int .u32 0⟩ := ⟨by kernel_rfl, by kernel_rfl⟩
instance Try.sxty88 : TyOK Try.prog 88 ⟨(.int .u8), 1, 1, .int .u8 0⟩ := ⟨by kernel_rfl, by kernel_rfl⟩
instance Try.sxty89 : TyOK Try.prog 89 ⟨(.int .u8), 1, 1, .int .u8 0⟩ := ⟨by kernel_rfl, by kernel_rfl⟩
instance Try.sxty90 : TyOK Try.prog 90 ⟨.other, 1, 8, .nilFunc⟩ := ⟨by kernel_rfl, by kernel_rfl⟩
instance Try.sxty91 : TyOK Try.prog 91 ⟨(.pointer 5), 1, 8, .pointer none⟩ := ⟨by kernel_rfl, by kernel_rfl⟩
instance Try.sxty92 : TyOK Try.prog 92 ⟨(.int .i32), 1, 4, .int .i32 0⟩ := ⟨by kernel_rfl, by kernel_rfl⟩
instance Try.sxty93 : TyOK Try.prog 93 ⟨(.int .i32), 1, 4, .int .i32 0⟩ := ⟨by kernel_rfl, by kernel_rfl⟩
instance Try.sxty94 : TyOK Try.prog 94 ⟨(.struct [(0, 12), (1, 12), (2, 87), (3, 88), (4, 5), (5, 5), (6, 89), (7, 90), (8, 91), (9, 92), (10, 93)]), 11, 48, .agg #[.int .u64 0, .int .u64 0, .int .u32 0, .int .u8 0, .int .u8 0, .int .u8 0, .int .u8 0, .nilFunc, .pointer none, .int .i32 0, .int .i32 0]⟩ := ⟨by kernel_rfl, by kernel_rfl⟩
instance Try.sxty95 : TyOK Try.prog 95 ⟨(.struct [(0, 12), (1, 12), (2, 87), (3, 88), (4, 5), (5, 5), (6, 89), (7, 90), (8, 91), (9, 92), (10, 93)]), 11, 48, .agg #[.int .u64 0, .int .u64 0, .int .u32 0, .int .u8 0, .int .u8 0, .int .u8 0, .int .u8 0, .nilFunc, .pointer none, .int .i32 0, .int .i32 0]⟩ := ⟨by kernel_rfl, by kernel_rfl⟩
instance Try.sxeq7 : EqTy Try.prog 7 [.int .i64, .int .i64, .bool, .int .u8] := ⟨by kernel_rfl, by kernel_rfl⟩
instance Try.sxeq8 : EqTy Try.prog 8 [.int .i64, .int .i64, .bool, .int .u8] := ⟨by kernel_rfl, by kernel_rfl⟩
instance Try.sxeq23 : EqTy Try.prog 23 [.int .i64, .int .i64, .int .i64] := ⟨by kernel_rfl, by kernel_rfl⟩
instance Try.sxeq24 : EqTy Try.prog 24 [.int .i64, .int .i64, .int .i64] := ⟨by kernel_rfl, by kernel_rfl⟩
instance Try.sxtys : Tys Try.prog := ⟨(.node (.node (.node (.node (.node (.node (.node .nil 1 ⟨.other, 1, 8, .nilFunc⟩ .nil) 2 ⟨(.int .i64), 1, 8, .int .i64 0⟩ .nil) 3 ⟨(.int .i64), 1, 8, .int .i64 0⟩ (.node (.node .nil 4 ⟨.bool, 1, 1, .bool false⟩ .nil) 5 ⟨(.int .u8), 1, 1, .int .u8 0⟩ .nil)) 6 ⟨(.int .u8), 1, 1, .int .u8 0⟩ (.node (.node (.node .nil 7 ⟨(.struct [(0, 2), (1, 3), (2, 4), (3, 6)]), 4, 24, .agg #[.int .i64 0, .int .i64 0, .bool false, .int .u8 0]⟩ .nil) 8 ⟨(.struct [(0, 2), (1, 3), (2, 4), (3, 6)]), 4, 24, .agg #[.int .i64 0, .int .i64 0, .bool false, .int .u8 0]⟩ .nil) 9 ⟨.string, 1, 16, .string ⟨#[]⟩⟩ (.node (.node .nil 10 ⟨.string, 1, 16, .string ⟨#[]⟩⟩ .nil) 11 ⟨.string, 1, 16, .string ⟨#[]⟩⟩ .nil))) 12 ⟨(.int .u64), 1, 8, .int .u64 0⟩ (.node (.node (.node (.node .nil 13 ⟨(.struct [(0, 9), (1, 12)]), 2, 24, .agg #[.string ⟨#[]⟩, .int .u64 0]⟩ .nil) 14 ⟨(.struct [(0, 9), (1, 12)]), 2, 24, .agg #[.string ⟨#[]⟩, .int .u64 0]⟩ .nil) 15 ⟨(.pointer 82), 1, 8, .pointer none⟩ (.node (.node .nil 16 ⟨(.pointer 85), 1, 8, .pointer none⟩ .nil) 17 ⟨(.pointer 95), 1, 8, .pointer none⟩ .nil)) 18 ⟨(.struct [(0, 17)]), 1, 8, .agg #[.pointer none]⟩ (.node (.node (.node .nil 19 ⟨(.struct [(0, 17)]), 1, 8, .agg #[.pointer none]⟩ .nil) 20 ⟨.other, 1, 16, .nilIface⟩ .nil) 21 ⟨(.int .i32), 1, 4, .int .i32 0⟩ (.node .nil 22 ⟨(.slice 24), 1, 24, .slice none 0 0⟩ .nil)))) 23 ⟨(.struct [(0, 3), (1, 3), (2, 3)]), 3, 24, .agg #[.int .i64 0, .int .i64 0, .int .i64 0]⟩ (.node (.node (.node (.node (.node .nil 24 ⟨(.struct [(0, 3), (1, 3), (2, 3)]), 3, 24, .agg #[.int .i64 0, .int .i64 0, .int .i64 0]⟩ .nil) 25 ⟨.other, 1, 8, .nilFunc⟩ .nil) 26 ⟨(.int .i64), 1, 8, .int .i64 0⟩ (.node (.node .nil 28 ⟨.other, 1, 8, .nilFunc⟩ .nil) 29 ⟨.other, 1, 8, .nilFunc⟩ .nil)) 30 ⟨.other, 1, 8, .nilFunc⟩ (.node (.node (.node .nil 31 ⟨.other, 1, 8, .nilFunc⟩ .nil) 32 ⟨(.slice 3), 1, 24, .slice none 0 0⟩ .nil) 34 ⟨.other, 1, 8, .nilFunc⟩ (.node .nil 36 ⟨.other, 1, 8, .nilFunc⟩ .nil))) 37 ⟨.other, 1, 8, .nilFunc⟩ (.node (.node (.node (.node .nil 38 ⟨(.slice 43), 1, 24, .slice none 0 0⟩ .nil) 39 ⟨(.slice 5), 1, 24, .slice none 0 0⟩ .nil) 40 ⟨.other, 1, 8, .nilFunc⟩ (.node (.node .nil 41 ⟨.other, 1, 8, .nilFunc⟩ .nil) 42 ⟨.other, 1, 8, .nilFunc⟩ .nil)) 43 ⟨(.array 2 5), 2, 2, .agg #[.int .u8 0, .int .u8 0]⟩ (.node (.node (.node .nil 45 ⟨.other, 1, 8, .nilFunc⟩ .nil) 46 ⟨.other, 1, 8, .nilFunc⟩ .nil) 47 ⟨.other, 1, 8, .nilFunc⟩ (.node .nil 48 ⟨.other, 1, 8, .nilFunc⟩ .nil))))) 50 ⟨.other, 1, 8, .nilFunc⟩ (.node (.node (.node (.node (.node (.node .nil 51 ⟨.other, 1, 8, .nilFunc⟩ .nil) 52 ⟨.other, 1, 8, .nilFunc⟩ .nil) 53 ⟨.other, 1, 8, .nilFunc⟩ (.node (.node .nil 54 ⟨.other, 1, 8, .nilFunc⟩ .nil) 55 ⟨.other, 1, 8, .nilFunc⟩ .nil)) 56 ⟨.other, 1, 8, .nilFunc⟩ (.node (.node (.node .nil 58 ⟨.other, 1, 8, .nilFunc⟩ .nil) 59 ⟨.other, 1, 8, .nilFunc⟩ .nil) 60 ⟨.other, 1, 8, .nilFunc⟩ (.node (.node .nil 61 ⟨.other, 1, 8, .nilFunc⟩ .nil) 62 ⟨.other, 1, 8, .nilFunc⟩ .nil))) 63 ⟨.other, 1, 8, .nilFunc⟩ (.node (.node (.node (.node .nil 64 ⟨.other, 1, 8, .nilFunc⟩ .nil) 65 ⟨.other, 1, 8, .nilFunc⟩ .nil) 66 ⟨.other, 1, 8, .nilFunc⟩ (.node (.node .nil 67 ⟨.other, 1, 8, .nilFunc⟩ .nil) 68 ⟨.other, 1, 8, .nilFunc⟩ .nil)) 69 ⟨.other, 1, 8, .nilFunc⟩ (.node (.node (.node .nil 70 ⟨.other, 1, 8, .nilFunc⟩ .nil) 71 ⟨(.array 32 4), 32, 32, .agg #[.bool false, .bool false, .bool false, .bool false, .bool false, .bool false, .bool false, .bool false, .bool false, .bool false, .bool false, .bool false, .bool false, .bool false, .bool false, .bool false, .bool false, .bool false, .bool false, .bool false, .bool false, .bool false, .bool false, .bool false, .bool false, .bool false, .bool false, .bool false, .bool false, .bool false, .bool false, .bool false]⟩ .nil) 72 ⟨.other, 1, 8, .nilFunc⟩ (.node .nil 73 ⟨.other, 1, 8, .nilFunc⟩ .nil)))) 74 ⟨.other, 1, 8, .nilFunc⟩ (.node (.node (.node (.node (.node .nil 75 ⟨.other, 1, 8, .nilFunc⟩ .nil) 76 ⟨.other, 1, 8, .nilFunc⟩ .nil) 77 ⟨(.int .u64), 1, 8, .int .u64 0⟩ (.node (.node .nil 78 ⟨.other, 1, 8, .nilFunc⟩ .nil) 79 ⟨.other, 1, 8, .nilFunc⟩ .nil)) 80 ⟨.other, 1, 8, .nilFunc⟩ (.node (.node (.node .nil 81 ⟨(.struct [(0, 17), (1, 17), (2, 17), (3, 9)]), 4, 40, .agg #[.pointer none, .pointer none, .pointer none, .string ⟨#[]⟩]⟩ .nil) 82 ⟨(.struct [(0, 17), (1, 17), (2, 17), (3, 9)]), 4, 40, .agg #[.pointer none, .pointer none, .pointer none, .string ⟨#[]⟩]⟩ .nil) 83 ⟨(.array 0 16), 0, 0, .agg #[]⟩ (.node .nil 84 ⟨(.struct [(0, 83)]), 0, 0, .agg #[]⟩ .nil))) 85 ⟨(.struct [(0, 83)]), 0, 0, .agg #[]⟩ (.node (.node (.node (.node .nil 86 ⟨.other, 1, 8, .nilFunc⟩ .nil) 87 ⟨(.int .u32), 1, 4, .int .u32 0⟩ .nil) 88 ⟨(.int .u8), 1, 1, .int .u8 0⟩ (.node (.node .nil 89 ⟨(.int .u8), 1, 1, .int .u8 0⟩ .nil) 90 ⟨.other, 1, 8, .nilFunc⟩ .nil)) 91 ⟨(.pointer 5), 1, 8, .pointer none⟩ (.node (.node (.node .nil 92 ⟨(.int .i32), 1, 4, .int .i32 0⟩ .nil) 93 ⟨(.int .i32), 1, 4, .int .i32 0⟩ .nil) 94 ⟨(.struct [(0, 12), (1, 12), (2, 87), (3, 88), (4, 5), (5, 5), (6, 89), (7, 90), (8, 91), (9, 92), (10, 93)]), 11, 48, .agg #[.int .u64 0, .int .u64 0, .int .u32 0, .int .u8 0, .int .u8 0, .int .u8 0, .int .u8 0, .nilFunc, .pointer none, .int .i32 0, .int .i32 0]⟩ (.node .nil 95 ⟨(.struct [(0, 12), (1, 12), (2, 87), (3, 88), (4, 5), (5, 5), (6, 89), (7, 90), (8, 91), (9, 92), (10, 93)]), 11, 48, .agg #[.int .u64 0, .int .u64 0, .int .u32 0, .int .u8 0, .int .u8 0, .int .u8 0, .int .u8 0, .nilFunc, .pointer none, .int .i32 0, .int .i32 0]⟩ .nil)))))), ⟨⟨⟨⟨⟨⟨⟨trivial, Try.sxty1, trivial⟩, Try.sxty2, trivial⟩, Try.sxty3, ⟨⟨trivial, Try.sxty4, trivial⟩, Try.sxty5, trivial⟩⟩, Try.sxty6, ⟨⟨⟨trivial, Try.sxty7, trivial⟩, Try.sxty8, trivial⟩, Try.sxty9, ⟨⟨trivial, Try.sxty10, trivial⟩, Try.sxty11, trivial⟩⟩⟩, Try.sxty12, ⟨⟨⟨⟨trivial, Try.sxty13, trivial⟩, Try.sxty14, trivial⟩, Try.sxty15, ⟨⟨trivial, Try.sxty16, trivial⟩, Try.sxty17, trivial⟩⟩, Try.sxty18, ⟨⟨⟨trivial, Try.sxty19, trivial⟩, Try.sxty20, trivial⟩, Try.sxty21, ⟨trivial, Try.sxty22, trivial⟩⟩⟩⟩, Try.sxty23, ⟨⟨⟨⟨⟨trivial, Try.sxty24, trivial⟩, Try.sxty25, trivial⟩, Try.sxty26, ⟨⟨trivial, Try.sxty28, trivial⟩, Try.sxty29, trivial⟩⟩, Try.sxty30, ⟨⟨⟨trivial, Try.sxty31, trivial⟩, Try.sxty32, trivial⟩, Try.sxty34, ⟨trivial, Try.sxty36, trivial⟩⟩⟩, Try.sxty37, ⟨⟨⟨⟨trivial, Try.sxty38, trivial⟩, Try.sxty39, trivial⟩, Try.sxty40, ⟨⟨trivial, Try.sxty41, trivial⟩, Try.sxty42, trivial⟩⟩, Try.sxty43, ⟨⟨⟨trivial, Try.sxty45, trivial⟩, Try.sxty46, trivial⟩, Try.sxty47, ⟨trivial, Try.sxty48, trivial⟩⟩⟩⟩⟩, Try.sxty50, ⟨⟨⟨⟨⟨⟨trivial, Try.sxty51, trivial⟩, Try.sxty52, trivial⟩, Try.sxty53, ⟨⟨trivial, Try.sxty54, trivial⟩, Try.sxty55, trivial⟩⟩, Try.sxty56, ⟨⟨⟨trivial, Try.sxty58, trivial⟩, Try.sxty59, trivial⟩, Try.sxty60, ⟨⟨trivial, Try.sxty61, trivial⟩, Try.sxty62, trivial⟩⟩⟩, Try.sxty63, ⟨⟨⟨⟨trivial, Try.sxty64, trivial⟩, Try.sxty65, trivial⟩, Try.sxty66, ⟨⟨trivial, Try.sxty67, trivial⟩, Try.sxty68, trivial⟩⟩, Try.sxty69, ⟨⟨⟨trivial, Try.sxty70, trivial⟩, Try.sxty71, trivial⟩, Try.sxty72, ⟨trivial, Try.sxty73, trivial⟩⟩⟩⟩, Try.sxty74, ⟨⟨⟨⟨⟨trivial, Try.sxty75, trivial⟩, Try.sxty76, trivial⟩, Try.sxty77, ⟨⟨trivial, Try.sxty78, trivial⟩, Try.sxty79, trivial⟩⟩, Try.sxty80, ⟨⟨⟨trivial, Try.sxty81, trivial⟩, Try.sxty82, trivial⟩, Try.sxty83, ⟨trivial, Try.sxty84, trivial⟩⟩⟩, Try.sxty85, ⟨⟨⟨⟨trivial, Try.sxty86, trivial⟩, Try.sxty87, trivial⟩, Try.sxty88, ⟨⟨trivial, Try.sxty89, trivial⟩, Try.sxty90, trivial⟩⟩, Try.sxty91, ⟨⟨⟨trivial, Try.sxty92, trivial⟩, Try.sxty93, trivial⟩, Try.sxty94, ⟨trivial, Try.sxty95, trivial⟩⟩⟩⟩⟩⟩⟩
instance Try.sxmixed : Mixed Try.prog := ⟨by kernel_rfl⟩
end Go.Proofs

