/-
  THE TYPES OF THIS SEAT, by program (gen.py): size, bytes and zero of each.
-/
import Derived.Test.YtppgppnkhpjlpaaRows
import Derived.Test.YtppgppnkhpjlpaaVgh
namespace Go.Proofs.Ytppgppnkhpjlpaa
open Go.Vg

theorem mixed : Try.prog.follows .mixedOrders = true := by kernel_rfl
theorem ty1 : TyI Try.prog 1 1 8 (.nilFunc) := TyI.of (by kernel_rfl)   -- func()
theorem ag1 : aggB Try.prog 1 = false := by kernel_rfl
theorem ty2 : TyI Try.prog 2 1 8 (.int .i64 0) := TyI.of (by kernel_rfl)   -- int64
theorem ag2 : aggB Try.prog 2 = false := by kernel_rfl
theorem ty3 : TyI Try.prog 3 1 8 (.int .i64 0) := TyI.of (by kernel_rfl)   -- int
theorem ag3 : aggB Try.prog 3 = false := by kernel_rfl
theorem ty4 : TyI Try.prog 4 1 1 (.bool false) := TyI.of (by kernel_rfl)   -- bool
theorem ag4 : aggB Try.prog 4 = false := by kernel_rfl
theorem ty5 : TyI Try.prog 5 1 1 (.int .u8 0) := TyI.of (by kernel_rfl)   -- uint8
theorem ag5 : aggB Try.prog 5 = false := by kernel_rfl
theorem ty12 : TyI Try.prog 12 1 8 (.int .u64 0) := TyI.of (by kernel_rfl)   -- uintptr
theorem ag12 : aggB Try.prog 12 = false := by kernel_rfl
theorem ty21 : TyI Try.prog 21 1 4 (.int .i32 0) := TyI.of (by kernel_rfl)   -- int32
theorem ag21 : aggB Try.prog 21 = false := by kernel_rfl
theorem ty22 : TyI Try.prog 22 1 24 (.slice none 0 0) := TyI.of (by kernel_rfl)   -- []api.Load
theorem ag22 : aggB Try.prog 22 = false := by kernel_rfl
theorem ty23 : TyI Try.prog 23 1 8 (.nilFunc) := TyI.of (by kernel_rfl)   -- func(int, int) int
theorem ag23 : aggB Try.prog 23 = false := by kernel_rfl
theorem ty24 : TyI Try.prog 24 2 16 (.agg #[.int .i64 0, .int .i64 0]) := TyI.of (by kernel_rfl)   -- struct ( Amount int; Merit int )
theorem ag24 : aggB Try.prog 24 = true := by kernel_rfl
theorem pl24 (w : World) : ((match Try.prog.underlying 24 with | some (.struct fs) => fs | _ => #[]).mapM fun (fl : Field) => (do pure (fl.offset, ← sizeOf fl.type) : Sem (Nat × Nat))).run Try.prog w = .ok #[(0, 1), (1, 1)] w := by kernel_rfl
theorem ty25 : TyI Try.prog 25 2 16 (.agg #[.int .i64 0, .int .i64 0]) := TyI.of (by kernel_rfl)   -- api.Load
theorem ag25 : aggB Try.prog 25 = true := by kernel_rfl
theorem pl25 (w : World) : ((match Try.prog.underlying 25 with | some (.struct fs) => fs | _ => #[]).mapM fun (fl : Field) => (do pure (fl.offset, ← sizeOf fl.type) : Sem (Nat × Nat))).run Try.prog w = .ok #[(0, 1), (1, 1)] w := by kernel_rfl
theorem ty26 : TyI Try.prog 26 1 24 (.slice none 0 0) := TyI.of (by kernel_rfl)   -- []int
theorem ag26 : aggB Try.prog 26 = false := by kernel_rfl
theorem ty27 : TyI Try.prog 27 1 8 (.int .i64 0) := TyI.of (by kernel_rfl)   -- api.Errno
theorem ag27 : aggB Try.prog 27 = false := by kernel_rfl
theorem ty29 : TyI Try.prog 29 1 8 (.nilFunc) := TyI.of (by kernel_rfl)   -- func([]api.Load, int) ([]int, api.Errno)
theorem ag29 : aggB Try.prog 29 = false := by kernel_rfl
theorem ty30 : TyI Try.prog 30 1 8 (.nilFunc) := TyI.of (by kernel_rfl)   -- func() bool
theorem ag30 : aggB Try.prog 30 = false := by kernel_rfl
theorem ty31 : TyI Try.prog 31 1 8 (.nilFunc) := TyI.of (by kernel_rfl)   -- func([]int, []int) bool
theorem ag31 : aggB Try.prog 31 = false := by kernel_rfl
theorem ty32 : TyI Try.prog 32 1 8 (.nilFunc) := TyI.of (by kernel_rfl)   -- func([]api.Load, int, bool) bool
theorem ag32 : aggB Try.prog 32 = false := by kernel_rfl
theorem ty33 : TyI Try.prog 33 1 8 (.int .u64 0) := TyI.of (by kernel_rfl)   -- uint64
theorem ag33 : aggB Try.prog 33 = false := by kernel_rfl
theorem ty34 : TyI Try.prog 34 1 8 (.nilFunc) := TyI.of (by kernel_rfl)   -- func([]int, func(int, int) int)
theorem ag34 : aggB Try.prog 34 = false := by kernel_rfl
theorem ty35 : TyI Try.prog 35 1 8 (.nilFunc) := TyI.of (by kernel_rfl)   -- func([]api.Load, []int, int, int, []int)
theorem ag35 : aggB Try.prog 35 = false := by kernel_rfl
theorem ty36 : TyI Try.prog 36 1 24 (.slice none 0 0) := TyI.of (by kernel_rfl)   -- []bool
theorem ag36 : aggB Try.prog 36 = false := by kernel_rfl
theorem ty37 : TyI Try.prog 37 1 24 (.slice none 0 0) := TyI.of (by kernel_rfl)   -- []api.Rat
theorem ag37 : aggB Try.prog 37 = false := by kernel_rfl
theorem ty38 : TyI Try.prog 38 1 24 (.slice none 0 0) := TyI.of (by kernel_rfl)   -- []uint32
theorem ag38 : aggB Try.prog 38 = false := by kernel_rfl
theorem ty39 : TyI Try.prog 39 2 32 (.agg #[.bool false, .slice none 0 0]) := TyI.of (by kernel_rfl)   -- struct ( Neg bool; Mag []uint32 )
theorem ag39 : aggB Try.prog 39 = true := by kernel_rfl
theorem pl39 (w : World) : ((match Try.prog.underlying 39 with | some (.struct fs) => fs | _ => #[]).mapM fun (fl : Field) => (do pure (fl.offset, ← sizeOf fl.type) : Sem (Nat × Nat))).run Try.prog w = .ok #[(0, 1), (1, 1)] w := by kernel_rfl
theorem ty40 : TyI Try.prog 40 2 32 (.agg #[.bool false, .slice none 0 0]) := TyI.of (by kernel_rfl)   -- api.Int
theorem ag40 : aggB Try.prog 40 = true := by kernel_rfl
theorem pl40 (w : World) : ((match Try.prog.underlying 40 with | some (.struct fs) => fs | _ => #[]).mapM fun (fl : Field) => (do pure (fl.offset, ← sizeOf fl.type) : Sem (Nat × Nat))).run Try.prog w = .ok #[(0, 1), (1, 1)] w := by kernel_rfl
theorem ty41 : TyI Try.prog 41 3 56 (.agg #[.bool false, .slice none 0 0, .slice none 0 0]) := TyI.of (by kernel_rfl)   -- struct ( Num api.Int; Den []uint32 )
theorem ag41 : aggB Try.prog 41 = true := by kernel_rfl
theorem pl41 (w : World) : ((match Try.prog.underlying 41 with | some (.struct fs) => fs | _ => #[]).mapM fun (fl : Field) => (do pure (fl.offset, ← sizeOf fl.type) : Sem (Nat × Nat))).run Try.prog w = .ok #[(0, 2), (2, 1)] w := by kernel_rfl
theorem ty42 : TyI Try.prog 42 3 56 (.agg #[.bool false, .slice none 0 0, .slice none 0 0]) := TyI.of (by kernel_rfl)   -- api.Rat
theorem ag42 : aggB Try.prog 42 = true := by kernel_rfl
theorem pl42 (w : World) : ((match Try.prog.underlying 42 with | some (.struct fs) => fs | _ => #[]).mapM fun (fl : Field) => (do pure (fl.offset, ← sizeOf fl.type) : Sem (Nat × Nat))).run Try.prog w = .ok #[(0, 2), (2, 1)] w := by kernel_rfl
theorem ty43 : TyI Try.prog 43 1 8 (.nilFunc) := TyI.of (by kernel_rfl)   -- func() api.Rat
theorem ag43 : aggB Try.prog 43 = false := by kernel_rfl
theorem ty44 : TyI Try.prog 44 1 8 (.nilFunc) := TyI.of (by kernel_rfl)   -- func(api.Rat, api.Rat) api.Rat
theorem ag44 : aggB Try.prog 44 = false := by kernel_rfl
theorem ty45 : TyI Try.prog 45 1 8 (.nilFunc) := TyI.of (by kernel_rfl)   -- func(int) api.Rat
theorem ag45 : aggB Try.prog 45 = false := by kernel_rfl
theorem ty46 : TyI Try.prog 46 1 8 (.nilFunc) := TyI.of (by kernel_rfl)   -- func([]api.Rat) ([]int, api.Errno)
theorem ag46 : aggB Try.prog 46 = false := by kernel_rfl
theorem ty47 : TyI Try.prog 47 1 8 (.nilFunc) := TyI.of (by kernel_rfl)   -- func([]int, int, func(int, int) int)
theorem ag47 : aggB Try.prog 47 = false := by kernel_rfl
theorem ty48 : TyI Try.prog 48 1 8 (.nilFunc) := TyI.of (by kernel_rfl)   -- func(int) bool
theorem ag48 : aggB Try.prog 48 = false := by kernel_rfl
theorem ty49 : TyI Try.prog 49 1 8 (.nilFunc) := TyI.of (by kernel_rfl)   -- func(int) int64
theorem ag49 : aggB Try.prog 49 = false := by kernel_rfl
theorem ty50 : TyI Try.prog 50 1 8 (.nilFunc) := TyI.of (by kernel_rfl)   -- func([]int) []int
theorem ag50 : aggB Try.prog 50 = false := by kernel_rfl
theorem ty51 : TyI Try.prog 51 1 8 (.nilFunc) := TyI.of (by kernel_rfl)   -- func(int64, int64) int
theorem ag51 : aggB Try.prog 51 = false := by kernel_rfl
theorem ty52 : TyI Try.prog 52 1 4 (.int .u32 0) := TyI.of (by kernel_rfl)   -- uint32
theorem ag52 : aggB Try.prog 52 = false := by kernel_rfl
theorem ty54 : TyI Try.prog 54 1 8 (.nilFunc) := TyI.of (by kernel_rfl)   -- func(api.Rat, api.Rat) (api.Rat, bool)
theorem ag54 : aggB Try.prog 54 = false := by kernel_rfl
theorem ty55 : TyI Try.prog 55 1 8 (.nilFunc) := TyI.of (by kernel_rfl)   -- func(api.Int, api.Int) api.Rat
theorem ag55 : aggB Try.prog 55 = false := by kernel_rfl
theorem ty56 : TyI Try.prog 56 1 8 (.nilFunc) := TyI.of (by kernel_rfl)   -- func(int) api.Int
theorem ag56 : aggB Try.prog 56 = false := by kernel_rfl
theorem ty57 : TyI Try.prog 57 1 8 (.nilFunc) := TyI.of (by kernel_rfl)   -- func(api.Rat, api.Rat) int
theorem ag57 : aggB Try.prog 57 = false := by kernel_rfl
theorem ty58 : TyI Try.prog 58 1 8 (.nilFunc) := TyI.of (by kernel_rfl)   -- func(api.Rat) api.Rat
theorem ag58 : aggB Try.prog 58 = false := by kernel_rfl
theorem ty59 : TyI Try.prog 59 1 8 (.nilFunc) := TyI.of (by kernel_rfl)   -- func([]api.Rat) api.Rat
theorem ag59 : aggB Try.prog 59 = false := by kernel_rfl
theorem ty61 : TyI Try.prog 61 1 8 (.nilFunc) := TyI.of (by kernel_rfl)   -- func(api.Int) (int, bool)
theorem ag61 : aggB Try.prog 61 = false := by kernel_rfl
theorem ty62 : TyI Try.prog 62 1 8 (.nilFunc) := TyI.of (by kernel_rfl)   -- func(api.Rat) api.Int
theorem ag62 : aggB Try.prog 62 = false := by kernel_rfl
theorem ty63 : TyI Try.prog 63 1 8 (.nilFunc) := TyI.of (by kernel_rfl)   -- func(api.Rat) int
theorem ag63 : aggB Try.prog 63 = false := by kernel_rfl
theorem ty64 : TyI Try.prog 64 1 8 (.nilFunc) := TyI.of (by kernel_rfl)   -- func([]int, int, int, func(int, int) int)
theorem ag64 : aggB Try.prog 64 = false := by kernel_rfl
theorem ty65 : TyI Try.prog 65 1 8 (.nilFunc) := TyI.of (by kernel_rfl)   -- func([]int, int, int, int, func(int, int) int)
theorem ag65 : aggB Try.prog 65 = false := by kernel_rfl
theorem ty66 : TyI Try.prog 66 1 8 (.nilFunc) := TyI.of (by kernel_rfl)   -- func(int64) bool
theorem ag66 : aggB Try.prog 66 = false := by kernel_rfl
theorem ty67 : TyI Try.prog 67 1 8 (.nilFunc) := TyI.of (by kernel_rfl)   -- func(api.Int, api.Int) api.Int
theorem ag67 : aggB Try.prog 67 = false := by kernel_rfl
theorem ty68 : TyI Try.prog 68 1 8 (.nilFunc) := TyI.of (by kernel_rfl)   -- func(api.Int) int
theorem ag68 : aggB Try.prog 68 = false := by kernel_rfl
theorem ty69 : TyI Try.prog 69 1 8 (.nilFunc) := TyI.of (by kernel_rfl)   -- func(api.Int) api.Int
theorem ag69 : aggB Try.prog 69 = false := by kernel_rfl
theorem ty70 : TyI Try.prog 70 1 8 (.nilFunc) := TyI.of (by kernel_rfl)   -- func([]uint32, []uint32) bool
theorem ag70 : aggB Try.prog 70 = false := by kernel_rfl
theorem ty72 : TyI Try.prog 72 1 8 (.nilFunc) := TyI.of (by kernel_rfl)   -- func(api.Int, api.Int) (api.Int, api.Int, bool)
theorem ag72 : aggB Try.prog 72 = false := by kernel_rfl
theorem ty73 : TyI Try.prog 73 1 8 (.nilFunc) := TyI.of (by kernel_rfl)   -- func(bool, []uint32) api.Int
theorem ag73 : aggB Try.prog 73 = false := by kernel_rfl
theorem ty74 : TyI Try.prog 74 1 8 (.nilFunc) := TyI.of (by kernel_rfl)   -- func(uint64) []uint32
theorem ag74 : aggB Try.prog 74 = false := by kernel_rfl
theorem ty76 : TyI Try.prog 76 1 8 (.nilFunc) := TyI.of (by kernel_rfl)   -- func([]uint32) (uint64, bool)
theorem ag76 : aggB Try.prog 76 = false := by kernel_rfl
theorem ty77 : TyI Try.prog 77 1 8 (.int .u64 0) := TyI.of (by kernel_rfl)   -- uint
theorem ag77 : aggB Try.prog 77 = false := by kernel_rfl
theorem ty78 : TyI Try.prog 78 1 8 (.nilFunc) := TyI.of (by kernel_rfl)   -- func([]uint32, []uint32) []uint32
theorem ag78 : aggB Try.prog 78 = false := by kernel_rfl
theorem ty80 : TyI Try.prog 80 1 8 (.nilFunc) := TyI.of (by kernel_rfl)   -- func([]uint32, []uint32) ([]uint32, []uint32, bool)
theorem ag80 : aggB Try.prog 80 = false := by kernel_rfl
theorem ty81 : TyI Try.prog 81 1 8 (.nilFunc) := TyI.of (by kernel_rfl)   -- func([]uint32) []uint32
theorem ag81 : aggB Try.prog 81 = false := by kernel_rfl
theorem ty82 : TyI Try.prog 82 1 8 (.nilFunc) := TyI.of (by kernel_rfl)   -- func([]uint32) int
theorem ag82 : aggB Try.prog 82 = false := by kernel_rfl
theorem ty83 : TyI Try.prog 83 1 8 (.nilFunc) := TyI.of (by kernel_rfl)   -- func([]uint32, int) uint32
theorem ag83 : aggB Try.prog 83 = false := by kernel_rfl
theorem ty85 : TyI Try.prog 85 1 8 (.nilFunc) := TyI.of (by kernel_rfl)   -- func([]uint32, []uint32) ([]uint32, bool)
theorem ag85 : aggB Try.prog 85 = false := by kernel_rfl
theorem ty86 : TyI Try.prog 86 1 8 (.nilFunc) := TyI.of (by kernel_rfl)   -- func([]uint32, []uint32) int
theorem ag86 : aggB Try.prog 86 = false := by kernel_rfl
theorem ty87 : TyI Try.prog 87 1 8 (.nilFunc) := TyI.of (by kernel_rfl)   -- func() string
theorem ag87 : aggB Try.prog 87 = false := by kernel_rfl
theorem ty93 : TyI Try.prog 93 1 8 (.nilFunc) := TyI.of (by kernel_rfl)   -- func() int
theorem ag93 : aggB Try.prog 93 = false := by kernel_rfl
theorem ty97 : TyI Try.prog 97 1 8 (.pointer none) := TyI.of (by kernel_rfl)   -- *uint8
theorem ag97 : aggB Try.prog 97 = false := by kernel_rfl
theorem ent3 : Ent Try.prog 3 := Ent.of Try.func3 rfl (by kernel_rfl)   -- gridmarket/gridmarketlaw43.ExecutiveCurtails
theorem ent4 : Ent Try.prog 4 := Ent.of Try.func4 rfl (by kernel_rfl)   -- gridmarket/gridmarketmake.Mod
theorem ent5 : Ent Try.prog 5 := Ent.of Try.func5 rfl (by kernel_rfl)   -- gridmarket/executive.Curtail
theorem ent6 : Ent Try.prog 6 := Ent.of Try.func6 rfl (by kernel_rfl)   -- gridmarket/gridmarketref43.Curtail
theorem ent7 : Ent Try.prog 7 := Ent.of Try.func7 rfl (by kernel_rfl)   -- gridmarket/gridmarketlaw43.awake
theorem ent8 : Ent Try.prog 8 := Ent.of Try.func8 rfl (by kernel_rfl)   -- gridmarket/gridmarketref18.Ints
theorem ent9 : Ent Try.prog 9 := Ent.of Try.func9 rfl (by kernel_rfl)   -- slices.SortStableFunc[[]int,int]
theorem ent10 : Ent Try.prog 10 := Ent.of Try.func10 rfl (by kernel_rfl)   -- gridmarket/executive.Curtail$1
theorem ent11 : Ent Try.prog 11 := Ent.of Try.func11 rfl (by kernel_rfl)   -- cmp.Compare[int]
theorem ent12 : Ent Try.prog 12 := Ent.of Try.func12 rfl (by kernel_rfl)   -- gridmarket/executive.divide
theorem ent13 : Ent Try.prog 13 := Ent.of Try.func13 rfl (by kernel_rfl)   -- gridmarket/gridmarketref03.Zero
theorem ent14 : Ent Try.prog 14 := Ent.of Try.func14 rfl (by kernel_rfl)   -- gridmarket/gridmarketref03.Over
theorem ent15 : Ent Try.prog 15 := Ent.of Try.func15 rfl (by kernel_rfl)   -- gridmarket/gridmarketref03.FromInt
theorem ent16 : Ent Try.prog 16 := Ent.of Try.func16 rfl (by kernel_rfl)   -- gridmarket/gridmarketref40.Apportion
theorem ent17 : Ent Try.prog 17 := Ent.of Try.func17 rfl (by kernel_rfl)   -- gridmarket/gridmarketref17.Ints
theorem ent18 : Ent Try.prog 18 := Ent.of Try.func18 rfl (by kernel_rfl)   -- slices.stableCmpFunc[int]
theorem ent19 : Ent Try.prog 19 := Ent.of Try.func19 rfl (by kernel_rfl)   -- cmp.isNaN[int]
theorem ent20 : Ent Try.prog 20 := Ent.of Try.func20 rfl (by kernel_rfl)   -- gridmarket/executive.divide$1
theorem ent21 : Ent Try.prog 21 := Ent.of Try.func21 rfl (by kernel_rfl)   -- slices.Clone[[]int,int]
theorem ent22 : Ent Try.prog 22 := Ent.of Try.func22 rfl (by kernel_rfl)   -- gridmarket/executive.divide$2
theorem ent23 : Ent Try.prog 23 := Ent.of Try.func23 rfl (by kernel_rfl)   -- cmp.Compare[int64]
theorem ent24 : Ent Try.prog 24 := Ent.of Try.func24 rfl (by kernel_rfl)   -- gridmarket/gridmarketref03.Div
theorem ent25 : Ent Try.prog 25 := Ent.of Try.func25 rfl (by kernel_rfl)   -- gridmarket/gridmarketref03.Make
theorem ent26 : Ent Try.prog 26 := Ent.of Try.func26 rfl (by kernel_rfl)   -- gridmarket/gridmarketref02.FromInt
theorem ent27 : Ent Try.prog 27 := Ent.of Try.func27 rfl (by kernel_rfl)   -- gridmarket/gridmarketref03.Compare
theorem ent28 : Ent Try.prog 28 := Ent.of Try.func28 rfl (by kernel_rfl)   -- gridmarket/gridmarketref28.Abs
theorem ent29 : Ent Try.prog 29 := Ent.of Try.func29 rfl (by kernel_rfl)   -- gridmarket/gridmarketref03.Sum
theorem ent30 : Ent Try.prog 30 := Ent.of Try.func30 rfl (by kernel_rfl)   -- gridmarket/gridmarketref02.Value
theorem ent31 : Ent Try.prog 31 := Ent.of Try.func31 rfl (by kernel_rfl)   -- gridmarket/gridmarketref03.Floor
theorem ent32 : Ent Try.prog 32 := Ent.of Try.func32 rfl (by kernel_rfl)   -- gridmarket/gridmarketref03.Sub
theorem ent33 : Ent Try.prog 33 := Ent.of Try.func33 rfl (by kernel_rfl)   -- gridmarket/gridmarketref03.Sign
theorem ent34 : Ent Try.prog 34 := Ent.of Try.func34 rfl (by kernel_rfl)   -- slices.insertionSortCmpFunc[int]
theorem ent35 : Ent Try.prog 35 := Ent.of Try.func35 rfl (by kernel_rfl)   -- slices.symMergeCmpFunc[int]
theorem ent36 : Ent Try.prog 36 := Ent.of Try.func36 rfl (by kernel_rfl)   -- cmp.isNaN[int64]
theorem ent37 : Ent Try.prog 37 := Ent.of Try.func37 rfl (by kernel_rfl)   -- gridmarket/gridmarketref02.Mul
theorem ent38 : Ent Try.prog 38 := Ent.of Try.func38 rfl (by kernel_rfl)   -- gridmarket/gridmarketref03.Norm
theorem ent39 : Ent Try.prog 39 := Ent.of Try.func39 rfl (by kernel_rfl)   -- gridmarket/gridmarketref03.den
theorem ent40 : Ent Try.prog 40 := Ent.of Try.func40 rfl (by kernel_rfl)   -- gridmarket/gridmarketref02.Sign
theorem ent41 : Ent Try.prog 41 := Ent.of Try.func41 rfl (by kernel_rfl)   -- gridmarket/gridmarketref02.Norm
theorem ent42 : Ent Try.prog 42 := Ent.of Try.func42 rfl (by kernel_rfl)   -- gridmarket/gridmarketref01.Equal
theorem ent43 : Ent Try.prog 43 := Ent.of Try.func43 rfl (by kernel_rfl)   -- gridmarket/gridmarketref02.GCD
theorem ent44 : Ent Try.prog 44 := Ent.of Try.func44 rfl (by kernel_rfl)   -- gridmarket/gridmarketref02.DivMod
theorem ent45 : Ent Try.prog 45 := Ent.of Try.func45 rfl (by kernel_rfl)   -- gridmarket/gridmarketref02.Neg
theorem ent46 : Ent Try.prog 46 := Ent.of Try.func46 rfl (by kernel_rfl)   -- gridmarket/gridmarketref02.Make
theorem ent47 : Ent Try.prog 47 := Ent.of Try.func47 rfl (by kernel_rfl)   -- gridmarket/gridmarketref01.FromUint64
theorem ent48 : Ent Try.prog 48 := Ent.of Try.func48 rfl (by kernel_rfl)   -- gridmarket/gridmarketref03.Neg
theorem ent49 : Ent Try.prog 49 := Ent.of Try.func49 rfl (by kernel_rfl)   -- gridmarket/gridmarketref03.Add
theorem ent50 : Ent Try.prog 50 := Ent.of Try.func50 rfl (by kernel_rfl)   -- gridmarket/gridmarketref01.Uint64
theorem ent51 : Ent Try.prog 51 := Ent.of Try.func51 rfl (by kernel_rfl)   -- slices.rotateCmpFunc[int]
theorem ent52 : Ent Try.prog 52 := Ent.of Try.func52 rfl (by kernel_rfl)   -- gridmarket/gridmarketref01.Mul
theorem ent53 : Ent Try.prog 53 := Ent.of Try.func53 rfl (by kernel_rfl)   -- gridmarket/gridmarketref01.GCD
theorem ent54 : Ent Try.prog 54 := Ent.of Try.func54 rfl (by kernel_rfl)   -- gridmarket/gridmarketref01.DivMod
theorem ent55 : Ent Try.prog 55 := Ent.of Try.func55 rfl (by kernel_rfl)   -- gridmarket/gridmarketref02.Add
theorem ent56 : Ent Try.prog 56 := Ent.of Try.func56 rfl (by kernel_rfl)   -- gridmarket/gridmarketref02.Abs
theorem ent57 : Ent Try.prog 57 := Ent.of Try.func57 rfl (by kernel_rfl)   -- gridmarket/gridmarketref02.Sub
theorem ent58 : Ent Try.prog 58 := Ent.of Try.func58 rfl (by kernel_rfl)   -- gridmarket/gridmarketref01.Trim
theorem ent59 : Ent Try.prog 59 := Ent.of Try.func59 rfl (by kernel_rfl)   -- slices.swapRangeCmpFunc[int]
theorem ent60 : Ent Try.prog 60 := Ent.of Try.func60 rfl (by kernel_rfl)   -- gridmarket/gridmarketref01.Bits
theorem ent61 : Ent Try.prog 61 := Ent.of Try.func61 rfl (by kernel_rfl)   -- gridmarket/gridmarketref01.Add
theorem ent62 : Ent Try.prog 62 := Ent.of Try.func62 rfl (by kernel_rfl)   -- gridmarket/gridmarketref01.bit
theorem ent63 : Ent Try.prog 63 := Ent.of Try.func63 rfl (by kernel_rfl)   -- gridmarket/gridmarketref01.Sub
theorem ent64 : Ent Try.prog 64 := Ent.of Try.func64 rfl (by kernel_rfl)   -- gridmarket/gridmarketref01.Compare
end Go.Proofs.Ytppgppnkhpjlpaa
