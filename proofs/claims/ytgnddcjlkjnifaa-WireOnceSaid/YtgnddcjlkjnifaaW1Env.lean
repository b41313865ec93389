import Derived.Test.YtgnddcjlkjnifaaTKeys
import Derived.Lib.ItoaNum
import Derived.Test.YtgnddcjlkjnifaaBMLaw
import Derived.Test.YtgnddcjlkjnifaaBMDefer
import Derived.Test.YtgnddcjlkjnifaaProg
namespace Go.Proofs.Try
open Go.AM

instance : Lay := ⟨[], []⟩

def amTab : List TI := [
  (⟨1, 0, .other, none, [.junk]⟩ : TI),
  (⟨1, 8, .other, none, [.nilfn]⟩ : TI),
  (⟨1, 8, (.int .i64), some (.int .i64), [.int .i64 0]⟩ : TI),
  (⟨1, 8, (.int .i64), some (.int .i64), [.int .i64 0]⟩ : TI),
  (⟨1, 1, .bool, some .bool, [.f]⟩ : TI),
  (⟨1, 1, (.int .u8), some (.int .u8), [.int .u8 0]⟩ : TI),
  (⟨1, 1, (.int .u8), some (.int .u8), [.int .u8 0]⟩ : TI),
  (⟨4, 24, (.struct [(2, 0), (3, 1), (4, 2), (6, 3)]), some (.pair (.int .i64) (.pair (.int .i64) (.pair .bool (.int .u8)))), [.int .i64 0, .int .i64 0, .f, .int .u8 0]⟩ : TI),
  (⟨4, 24, (.struct [(2, 0), (3, 1), (4, 2), (6, 3)]), some (.pair (.int .i64) (.pair (.int .i64) (.pair .bool (.int .u8)))), [.int .i64 0, .int .i64 0, .f, .int .u8 0]⟩ : TI),
  (⟨1, 16, .str, some .str, [.str []]⟩ : TI),
  (⟨1, 16, .str, some .str, [.str []]⟩ : TI),
  (⟨1, 16, .str, some .str, [.str []]⟩ : TI),
  (⟨1, 8, (.int .u64), some (.int .u64), [.int .u64 0]⟩ : TI),
  (⟨2, 24, (.struct [(9, 0), (12, 1)]), some (.pair .str (.int .u64)), [.str [], .int .u64 0]⟩ : TI),
  (⟨2, 24, (.struct [(9, 0), (12, 1)]), some (.pair .str (.int .u64)), [.str [], .int .u64 0]⟩ : TI),
  (⟨1, 8, (.ptr 50), none, [.nilptr]⟩ : TI),
  (⟨1, 8, (.ptr 53), none, [.nilptr]⟩ : TI),
  (⟨1, 8, (.ptr 63), none, [.nilptr]⟩ : TI),
  (⟨1, 8, (.struct [(17, 0)]), none, [.nilptr]⟩ : TI),
  (⟨1, 8, (.struct [(17, 0)]), none, [.nilptr]⟩ : TI),
  (⟨1, 16, .other, none, [.niliface]⟩ : TI),
  (⟨1, 4, (.int .i32), some (.int .i32), [.int .i32 0]⟩ : TI),
  (⟨1, 24, (.slice 9), some (.sl .str), [.sl .str [] true]⟩ : TI),
  (⟨1, 24, (.slice 3), some (.sl (.int .i64)), [.sl (.int .i64) [] true]⟩ : TI),
  (⟨1, 24, (.slice 33), some (.sl (.pair (.int .i64) (.pair (.int .i64) (.pair .str (.int .i64))))), [.sl (.pair (.int .i64) (.pair (.int .i64) (.pair .str (.int .i64)))) [] true]⟩ : TI),
  (⟨3, 40, (.struct [(24, 0), (3, 1), (3, 2)]), some (.pair (.sl (.pair (.int .i64) (.pair (.int .i64) (.pair .str (.int .i64))))) (.pair (.int .i64) (.int .i64))), [.sl (.pair (.int .i64) (.pair (.int .i64) (.pair .str (.int .i64)))) [] true, .int .i64 0, .int .i64 0]⟩ : TI),
  (⟨3, 40, (.struct [(24, 0), (3, 1), (3, 2)]), some (.pair (.sl (.pair (.int .i64) (.pair (.int .i64) (.pair .str (.int .i64))))) (.pair (.int .i64) (.int .i64))), [.sl (.pair (.int .i64) (.pair (.int .i64) (.pair .str (.int .i64)))) [] true, .int .i64 0, .int .i64 0]⟩ : TI),
  (⟨1, 8, (.map 3 9), none, [.junk]⟩ : TI),
  (⟨1, 8, (.map 3 3), none, [.junk]⟩ : TI),
  (⟨1, 8, (.int .i64), some (.int .i64), [.int .i64 0]⟩ : TI),
  (⟨1, 0, .other, none, [.junk]⟩ : TI),
  (⟨1, 8, .other, none, [.nilfn]⟩ : TI),
  (⟨4, 40, (.struct [(3, 0), (3, 1), (9, 2), (3, 3)]), some (.pair (.int .i64) (.pair (.int .i64) (.pair .str (.int .i64)))), [.int .i64 0, .int .i64 0, .str [], .int .i64 0]⟩ : TI),
  (⟨4, 40, (.struct [(3, 0), (3, 1), (9, 2), (3, 3)]), some (.pair (.int .i64) (.pair (.int .i64) (.pair .str (.int .i64)))), [.int .i64 0, .int .i64 0, .str [], .int .i64 0]⟩ : TI),
  (⟨1, 0, .other, none, [.junk]⟩ : TI),
  (⟨1, 8, .other, none, [.nilfn]⟩ : TI),
  (⟨1, 0, .other, none, [.junk]⟩ : TI),
  (⟨1, 8, .other, none, [.nilfn]⟩ : TI),
  (⟨1, 8, .other, none, [.nilfn]⟩ : TI),
  (⟨1, 8, .other, none, [.nilfn]⟩ : TI),
  (⟨1, 8, .other, none, [.nilfn]⟩ : TI),
  (⟨1, 8, .other, none, [.nilfn]⟩ : TI),
  (⟨1, 8, .other, none, [.nilfn]⟩ : TI),
  (⟨1, 8, .other, none, [.nilfn]⟩ : TI),
  (⟨1, 8, .other, none, [.nilfn]⟩ : TI),
  (⟨1, 8, .other, none, [.nilfn]⟩ : TI),
  (⟨1, 8, .other, none, [.nilfn]⟩ : TI),
  (⟨1, 8, .other, none, [.nilfn]⟩ : TI),
  (⟨1, 8, .other, none, [.nilfn]⟩ : TI),
  (⟨4, 40, (.struct [(17, 0), (17, 1), (17, 2), (9, 3)]), none, [.nilptr, .nilptr, .nilptr, .str []]⟩ : TI),
  (⟨4, 40, (.struct [(17, 0), (17, 1), (17, 2), (9, 3)]), none, [.nilptr, .nilptr, .nilptr, .str []]⟩ : TI),
  (⟨0, 0, (.array 0 16), none, []⟩ : TI),
  (⟨0, 0, (.struct [(51, 0)]), none, []⟩ : TI),
  (⟨0, 0, (.struct [(51, 0)]), none, []⟩ : TI),
  (⟨1, 8, .other, none, [.nilfn]⟩ : TI),
  (⟨1, 4, (.int .u32), some (.int .u32), [.int .u32 0]⟩ : TI),
  (⟨1, 1, (.int .u8), some (.int .u8), [.int .u8 0]⟩ : TI),
  (⟨1, 1, (.int .u8), some (.int .u8), [.int .u8 0]⟩ : TI),
  (⟨1, 8, .other, none, [.nilfn]⟩ : TI),
  (⟨1, 8, (.ptr 5), none, [.nilptr]⟩ : TI),
  (⟨1, 4, (.int .i32), some (.int .i32), [.int .i32 0]⟩ : TI),
  (⟨1, 4, (.int .i32), some (.int .i32), [.int .i32 0]⟩ : TI),
  (⟨11, 48, (.struct [(12, 0), (12, 1), (55, 2), (56, 3), (5, 4), (5, 5), (57, 6), (58, 7), (59, 8), (60, 9), (61, 10)]), none, [.int .u64 0, .int .u64 0, .int .u32 0, .int .u8 0, .int .u8 0, .int .u8 0, .int .u8 0, .nilfn, .nilptr, .int .i32 0, .int .i32 0]⟩ : TI),
  (⟨11, 48, (.struct [(12, 0), (12, 1), (55, 2), (56, 3), (5, 4), (5, 5), (57, 6), (58, 7), (59, 8), (60, 9), (61, 10)]), none, [.int .u64 0, .int .u64 0, .int .u32 0, .int .u8 0, .int .u8 0, .int .u8 0, .int .u8 0, .nilfn, .nilptr, .int .i32 0, .int .i32 0]⟩ : TI),
  (⟨1, 8, .other, none, [.nilptr]⟩ : TI)
]

noncomputable def E : Env := ⟨prog, amTab, [15], [33], [], false⟩
theorem envOK0 : EnvOK { E with eqs := [] } := envOK_mk (by kernel_rfl) (by kernel_rfl) (eqsOK_nil rfl) (fun p hp => absurd hp List.not_mem_nil)
theorem envOK : EnvOK E := envOK_mk (by kernel_rfl) (by kernel_rfl) (eqsOK_of envOK0 (by kernel_rfl)) (fun p hp => absurd hp List.not_mem_nil)
theorem tysOKs : ∀ t, tyB E t = true := tyB_all (by kernel_rfl)
end Go.Proofs.Try
