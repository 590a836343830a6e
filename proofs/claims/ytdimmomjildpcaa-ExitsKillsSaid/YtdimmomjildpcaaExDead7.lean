/- What the dead answer: the program. -/
import Derived.Test.YtdimmomjildpcaaExDead4
import Derived.Test.YtdimmomjildpcaaExDead5
import Derived.Test.YtdimmomjildpcaaExDead6
import Derived.Test.YtdimmomjildpcaaExDead3
namespace Go.Proofs.Ytdimmomjildpcaa
open Go.RowKit
attribute [local irreducible] Ext
attribute [local go_sem] run_store_float
attribute [local go_sem] as_ll as_lu as_lx as_ul as_uu as_ux as_xl as_xu as_xx as_nl as_nu as_nx

theorem pdead_any {kd a b c d e : Int} {l : Bool} {q : Int} {z : ByteArray} {is : Bool} (fr tt id rf : Int) (ln : Bool) (nm : ByteArray) (k n : Int) (f : Nat) (s : ByteArray) (so : Option Addr) (m cap : Nat) (h : DeadIs fr tt kd id rf a b c d e l q z is) (w : World) :
    Calls Try.prog 9 #[.agg #[.int .i64 fr, .int .i64 tt, .int .i64 kd, .int .i64 id, .int .i64 rf, .bool ln, .string nm, .int .i64 k, .int .i64 n, .float .f64 f, .string s, .slice so m cap]] w fun e' w' => e' = .returned (.tuple #[.agg #[.int .i64 a, .int .i64 b, .int .i64 c, .int .i64 d, .int .i64 e, .bool l, .string ⟨#[]⟩, .int .i64 q, .int .i64 0, .float .f64 0, .string z, .slice none 0 0], .bool is]) ∧ Ext w w' := by
  rcases h with ⟨h0, rfl, rfl, rfl, rfl, rfl, rfl, rfl, rfl, rfl, rfl⟩ | ⟨h0, rfl, rfl, rfl, rfl, rfl, rfl, rfl, rfl, rfl, rfl⟩ | ⟨h0, rfl, rfl, rfl, rfl, rfl, rfl, rfl, rfl, rfl, rfl⟩ | ⟨h0, rfl, rfl, rfl, rfl, rfl, rfl, rfl, rfl, rfl⟩
  · exact pdead2 _ _ _ _ ln nm k n f s so m cap h0 w
  · exact pdead3 _ _ _ _ ln nm k n f s so m cap h0 w
  · exact pdead6 _ _ _ _ ln nm k n f s so m cap h0 w
  · by_cases h2 : kd = 2
    · subst h2
      exact pdead2z fr tt id rf ln nm k n f s so m cap (by omega) w
    · by_cases h3 : kd = 3
      · subst h3
        exact pdead3z fr tt id rf ln nm k n f s so m cap (by omega) w
      · by_cases h6 : kd = 6
        · subst h6
          exact pdead6z fr tt id rf ln nm k n f s so m cap (by omega) w
        · exact pdead0 fr tt kd id rf ln nm k n f s so m cap ⟨h2, h3, h6⟩ w

end Go.Proofs.Ytdimmomjildpcaa
