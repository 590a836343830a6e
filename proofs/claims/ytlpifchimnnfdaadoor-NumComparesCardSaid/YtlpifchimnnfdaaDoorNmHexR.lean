/- Numbers: the document's hex digits. -/
import Derived.Test.YtlpifchimnnfdaaDoorNmDcl
import Derived.Test.YtlpifchimnnfdaaDoorAppRow
namespace Go.Proofs.YtlpifchimnnfdaaDoor
open Go.RowKit
attribute [local irreducible] Ext
attribute [local go_sem] run_store_float

/-- The first of sixteen hex digits, as cells. -/
def hexV (u j : Nat) : List Value := (List.range j).map fun i => .int .u8 ((hexd (u / 16 ^ (15 - i) % 16) : Nat) : Int)

theorem hexV_length (u j : Nat) : (hexV u j).length = j := by simp [hexV]
theorem hexV_succ (u j : Nat) : hexV u j ++ [.int .u8 ((hexd (u / 16 ^ (15 - j) % 16) : Nat) : Int)] = hexV u (j + 1) := by
  unfold hexV
  rw [List.range_succ, List.map_append]
  rfl

theorem own_ext {a b : World} (h : Ext a b) {base size n : Nat} {e : TypeId} {v : Value} {xs : List Value} (ho : a.ownsRow base e size v n xs) : b.ownsRow base e size v n xs := by
  unfold Ext at h
  exact own_keep h ho (fun _ _ h => h)

/-- Where the row of digits stands. -/
def HexAt (w wr : World) (u j : Nat) (v : Value) : Prop := Ext w wr ∧ wr.ownsRow w.heap.size 5 1 v j (hexV u j)

theorem HexAt.start (w : World) (u : Nat) : HexAt w w u 0 (.slice none 0 0) := ⟨Ext.refl w, rfl, .inl ⟨rfl, rfl⟩⟩

theorem hexr_string {w wr : World} {u : Nat} {so : Option Addr} {c : Nat} (h : HexAt w wr u 16 (.slice so 16 c)) : (convert 88 9 (.slice so 16 c)).run Tryd.prog wr = .ok (.string (hexS u 16)) wr := by
  obtain ⟨hE, ho⟩ := h
  rcases ho.2 with ⟨_, h0⟩ | ⟨g, cap, cur, hv, _, hb, _, _, hcs, htk⟩
  · cases h0
  · rw [Value.slice.injEq] at hv
    obtain ⟨rfl, -, rfl⟩ := hv
    have h2 := run_convert_bytes_back (P := Tryd.prog) wr 88 9 5 ⟨g, 0, none⟩ c (hexL u 16) (by kernel_rfl) (by kernel_rfl) (by kernel_rfl) (fun t ht => by
      have ht' : t < 16 := by simpa [hexL_length] using ht
      have e : (⟨g, 0, none⟩ : Addr).add t = ⟨g, t, none⟩ := by unfold Addr.add; split <;> simp_all
      have e2 : (hexV u 16)[t]? = some (.int .u8 ((hexd (u / 16 ^ (15 - t) % 16) : Nat) : Int)) := by
        unfold hexV
        rw [List.getElem?_map, List.getElem?_range ht']
        rfl
      rw [ho.cells (g := g) rfl t _ e2]
      have hd := hexd_lt (u / 16 ^ (15 - t) % 16) (Nat.mod_lt _ (by decide))
      simp [hexL, Nat.mod_eq_of_lt hd])
    rw [hexL_length] at h2
    exact h2

theorem hexr_next {w wr w' : World} {u j d : Nat} {v v' : Value} {cs : Array Value} (h : HexAt w wr u j v) (hd : u / 16 ^ (15 - j) % 16 = d) {x : Int} (hx : x = ((hexd d : Nat) : Int)) (ho : w'.ownsRow w.heap.size 5 1 v' (j + 1) (hexV u j ++ [.int .u8 x]))
    (hM : Mod (fun k => some k = v.ownBlock) (wr.alloc (.cells cs 5)) w') : HexAt w w' u (j + 1) v' := by
  subst hd
  subst hx
  rw [hexV_succ] at ho
  exact ⟨ext_of_mod (h.1.alloc _) hM (fun k e => own_base' h.2 e.symm), ho⟩

theorem src_one (w : World) (x : Int) : Src (w.alloc (.cells #[.int .u8 x] 5)) (some ⟨w.heap.size, 0, none⟩) [.int .u8 x] := fun k v hk => by
  have hk' : k = 0 := by
    cases k with
    | zero => rfl
    | succ k => simp at hk
  subst hk'
  refine ⟨_, rfl, ?_⟩
  have e : (⟨w.heap.size, 0, none⟩ : Addr).add 0 = ⟨w.heap.size, 0, none⟩ := by unfold Addr.add; split <;> simp_all
  rw [e, cell_of_heap (made_byte w x) 0, ← hk]
  rfl

theorem ones_one (x : Int) : ∀ v ∈ [Value.int .u8 x], v.oneCell' = true := fun v hv => by
  rw [List.mem_singleton.1 hv]
  rfl

set_option maxRecDepth 100000 in
set_option maxHeartbeats 4000000 in
theorem hexr_any (u : Nat) (hu : u < 18446744073709551616) (w : World) :
    Calls Tryd.prog 76 #[.int .u64 (u : Int)] w fun e w' => e = .returned (.string (hexS u 16)) ∧ Ext w w' := by
  obtain ⟨i0, hi, hz0, hz1, hz2⟩ := info_parts (t := 5) (z := .int .u8 0) (n := 1) (by_ := 1) (by kernel_rfl)
  have HS := Lib.hid (HexAt.start w u)
  have HU := Lib.hid hu
  clear hu
  go_enter Tryd.func76, Tryd.ntmps76
  go_upto_region 3 with (fail)
  go_loopg [3, 4] 16 (fun g b i wr => ∃ (j : Nat) (so : Option Addr) (c : Nat), j + g = 16 ∧ b = .slice so j c ∧ i = .int .i64 (j : Int) ∧ Hid (HexAt w wr u j (.slice so j c)))
  case atStart => exact ⟨0, none, 0, rfl, rfl, rfl, HS⟩
  case round =>
    obtain ⟨j, so, c, hj, rfl, rfl, HF⟩ := hrel
    by_cases h16 : j < 16
    · have c1 : decide ((j : Int) < 16) = true := decide_eq_true (by omega)
      obtain ⟨s, hs⟩ : ∃ s : Nat, 60 - 4 * j = s := ⟨_, rfl⟩
      have e1 : IntKind.i64.wrap (4 * (j : Int)) = 4 * (j : Int) := IntWalk.i64_in _ (by omega)
      have e2 : IntKind.i64.wrap (60 - 4 * (j : Int)) = (s : Int) := by rw [IntWalk.i64_in _ (by omega)]; omega
      have e3 : (60 : Int) - 4 * (j : Int) = (s : Int) := by omega
      have e4 : IntKind.u64.wrap (s : Int) = (s : Int) := by rw [wrap_u64]; omega
      have hsh := fun W => run_shr Tryd.prog 22 u s (by omega) W
      have hpw : 2 ^ s = 16 ^ (15 - j) := by
        rw [← hs, show 60 - 4 * j = 4 * (15 - j) by omega, Nat.pow_mul]
      obtain ⟨q, hq⟩ : ∃ q, u / 2 ^ s = q := ⟨_, rfl⟩
      obtain ⟨d, hd⟩ : ∃ d, q % 16 = d := ⟨_, rfl⟩
      have hdl : d < 16 := by omega
      have hqi : (u : Int) / 2 ^ s = (q : Int) := by rw [← hq]; simp
      have hd0 : u / 16 ^ (15 - j) % 16 = d := by rw [← hpw, hq, hd]
      have hql : q < 18446744073709551616 := by rw [← hq]; have := HU.out; have := Nat.div_le_self u (2 ^ s); omega
      have ha := and15 q hql
      rw [hq] at hsh
      rw [hd] at ha
      have e5 : IntKind.u8.wrap (d : Int) = (d : Int) := by rw [IntKind.wrap_u8]; omega
      have HD := Lib.hid hd0
      have HJ := Lib.hid (show j + 1 + (16 - (j + 1)) = 16 ∧ j + 1 ≤ 1000000000 ∧ 16 - (j + 1) < gk by omega)
      have e9 : IntKind.i64.wrap ((j : Int) + 1) = ((j + 1 : Nat) : Int) := by rw [IntWalk.i64_in _ (by omega)]; omega
      clear hpw hq hd hd0 hql hs
      have m1 : (d : Int) % 256 = (d : Int) := by omega
      by_cases hten : d < 10
      · have c2 : decide ((d : Int) < 10) = true := decide_eq_true (by omega)
        have c3 : (d : Int) < 10 := by omega
        have m2 : (48 + (d : Int)) % 256 = 48 + (d : Int) := by omega
        have HX := Lib.hid (show (48 : Int) + (d : Int) = ((hexd d : Nat) : Int) by unfold hexd; rw [if_pos hten]; omega)
        clear hj h16 hdl hten
        have hsrc := src_one wr (48 + (d : Int))
        have hbase := Ext.size (HF.out.1.alloc (.cells #[.int .u8 (48 + (d : Int))] 5))
        have hown := own_ext ((Ext.refl wr).alloc (.cells #[.int .u8 (48 + (d : Int))] 5)) HF.out.2
        go_wp2_with (first
          | (refine wpList_app (by rfl) _ _ 88 (by rfl) w.heap.size 5 i0 (.int .u8 0) 1 1 Tryd.underlying88 hi hz0 hz1 hz2 rfl (by decide) (.slice so j c) j (hexV u j) (by rfl) hown (some ⟨wr.heap.size, 0, none⟩) 1 1 [.int .u8 (48 + (d : Int))] (by rfl) rfl hsrc (ones_one _) HJ.out.2.1 (by decide) hbase ?_
             intro so9 sc9 w9 h29 h39 h49
             have HN := Lib.hid (hexr_next HF.out HD.out HX.out h29 h39)
             clear h29 h39 h49)
          | fail)
        go_roundg (16 - (j + 1))
        case measure => exact HJ.out.2.2
        case rel => exact ⟨j + 1, so9, sc9, HJ.out.1, rfl, rfl, HN⟩
      · have c2 : decide ((d : Int) < 10) = false := decide_eq_false (by omega)
        have c3 : ¬ (d : Int) < 10 := by omega
        have m2 : (97 + (d : Int) - 10) % 256 = 97 + (d : Int) - 10 := by omega
        have m3 : (97 + (d : Int)) % 256 = 97 + (d : Int) := by omega
        have HX := Lib.hid (show 97 + (d : Int) - 10 = ((hexd d : Nat) : Int) by unfold hexd; rw [if_neg hten]; omega)
        clear hj h16 hdl hten
        have hsrc := src_one wr (97 + (d : Int) - 10)
        have hbase := Ext.size (HF.out.1.alloc (.cells #[.int .u8 (97 + (d : Int) - 10)] 5))
        have hown := own_ext ((Ext.refl wr).alloc (.cells #[.int .u8 (97 + (d : Int) - 10)] 5)) HF.out.2
        go_wp2_with (first
          | (refine wpList_app (by rfl) _ _ 88 (by rfl) w.heap.size 5 i0 (.int .u8 0) 1 1 Tryd.underlying88 hi hz0 hz1 hz2 rfl (by decide) (.slice so j c) j (hexV u j) (by rfl) hown (some ⟨wr.heap.size, 0, none⟩) 1 1 [.int .u8 (97 + (d : Int) - 10)] (by rfl) rfl hsrc (ones_one _) HJ.out.2.1 (by decide) hbase ?_
             intro so9 sc9 w9 h29 h39 h49
             have HN := Lib.hid (hexr_next HF.out HD.out HX.out h29 h39)
             clear h29 h39 h49)
          | fail)
        go_roundg (16 - (j + 1))
        case measure => exact HJ.out.2.2
        case rel => exact ⟨j + 1, so9, sc9, HJ.out.1, rfl, rfl, HN⟩
    · have h1 : j = 16 := by omega
      subst h1
      have c1 : decide (((16 : Nat) : Int) < 16) = false := by decide
      have hcv := hexr_string HF.out
      have HE := Lib.hid HF.out.1
      go_wp2_with fail
      exact bodyPost_ret (v := .string (hexS u 16)) (by simp [results, Tryd.f76, go_sem]) rfl ⟨rfl, HE.out⟩

end Go.Proofs.YtlpifchimnnfdaaDoor
