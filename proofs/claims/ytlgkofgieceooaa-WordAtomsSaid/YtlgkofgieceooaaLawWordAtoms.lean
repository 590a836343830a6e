/- WordAtoms: any row of texts (of at most 2000) is numbered as the document says; all numbers are told as it says. No conditions. -/
import Derived.Test.YtlgkofgieceooaaLift
import Derived.Test.YtlgkofgieceooaaAtomsBoth
import Derived.Test.YtlgkofgieceooaaArgStr
import Derived.Deep.QuietTactic
import Derived.BigQuiet
import Derived.Lib.Hide
namespace Go.Proofs.Ytlgkofgieceooaa
open Go.ChangeShapes Go.WideShapes Go.ChangeAt Go.RowKit

set_option maxHeartbeats 4000000 in
set_option maxRecDepth 100000 in
theorem wordAtoms_any (so : Option Addr) (cap : Nat) (l : List ByteArray) (n : Int) (w : World) (hl : ArgRow w.heap.size w (.slice so l.length cap) (l.map Value.string)) :
    Calls Try.prog 7 #[.slice so l.length cap, .int .i64 n] w fun e w' => e = .returned (.bool true) ∧ Below w.heap.size w w' := by
  by_cases hlen : l.length ≤ 2000
  · go_enter Try.func7, Try.ntmps7
    go_wp2_with (go_at_call 9; refine (known_any _).mono ?_; rintro e w1 ⟨rfl, hM1⟩)
    refine (newAtoms_any _).mono ?_
    rintro e w2 ⟨rfl, hA2, hM2⟩
    have hBoth : Both w.heap.size w (w2.alloc (.cells #[.slice none 0 0] 49)) (w1.heap.size + 1) w1.heap.size w2.heap.size [] [] := by
      have hz1 := hM1.size
      have hz2 := hM2.size
      refine ⟨⟨_, .slice none 0 0, hA2.keep ((Mod.refl (fun _ => False) _).alloc _) (fun h => h) (fun h => h) (fun _ _ h => h), ⟨heap_alloc_new _ _, World.ownsRow_nil _ _ _ _⟩, (fun g hg => by cases hg), (fun g hg => by cases hg)⟩,
        ?_, ?_, by omega, by omega, by omega⟩
      · refine Below.alloc ((hM1.below (Nat.le_refl _) (fun _ h => h.elim)).trans (hM2.below hz1 (fun _ h => h.elim))) (by omega) _
      · simp
        omega
    have HB := Lib.hid hBoth
    have hlt2 : w2.heap.size ≠ w1.heap.size + 1 := by
      have := heap_lt hA2.blk
      omega
    clear hBoth hM1 hA2 hM2
    go_wp2_with fail
    generalize w2.alloc (.cells #[.slice none 0 0] 49) = w3 at HB ⊢
    generalize w1.heap.size + 1 = b at HB ⊢
    generalize w1.heap.size = m at HB
    generalize w2.heap.size = b2 at HB ⊢
    clear hlt2
    go_loopw [7] (fun i wr => ∃ (k : Nat) (T : List ByteArray), k ≤ l.length ∧ i = .int .i64 k ∧ Hid (Both w.heap.size w wr b m b2 T T) ∧ T.length ≤ k) (fun i _ => l.length - (intOf i).toNat)
    case atStart => exact ⟨0, [], Nat.zero_le _, rfl, HB, Nat.le_refl _⟩
    case round =>
      obtain ⟨k, T, hk, rfl, HBr, hT⟩ := hrel
      by_cases hlt : k < l.length
      · have hx : l[k]? = some (l[k]) := List.getElem?_eq_getElem hlt
        obtain ⟨ab, ao, cap', he, hab, hcell⟩ := arg_str (hl.below HBr.out.below) hx
        injection he with he1 he2 he3
        subst he1
        subst he3
        generalize l[k] = x at hx hcell
        have hx0 := Lib.hid hx
        clear hx he2
        go_wp2_with fail
        refine (number_both HBr.out x (by omega)).mono ?_
        rintro e w4 ⟨rfl, hB4⟩
        obtain ⟨ab', ao', cap'', he, hab', hcell4⟩ := arg_str (hl.below hB4.below) hx0.out
        injection he with he1 he2 he3
        injection he1 with he1
        injection he1 with he1 he4
        subst he1
        subst he3
        subst he4
        go_wp2_with fail
        refine (refNumber_both hB4 x (by omega)).mono ?_
        rintro e w5 ⟨rfl, hB5⟩
        have hl5 := addT_len T x
        obtain ⟨so5, sc5, hc5⟩ := hB5.len
        generalize hp : numR T x = p
        generalize hT5 : addT T x = T5 at hl5 hc5 hB5
        clear hp hT5 hB4
        go_wp2_with fail
        go_quiet ((go_at_call 25; exact Calls.quiet_of_same (len_both (hB5.drewN _))))
        go_wp2_with fail
        go_roundw
        case rel => exact ⟨k + 1, T5, by omega, by go_num, Lib.hid (hB5.drewN nq), by omega⟩
        case measure => simp [intOf]; omega
      · have hk' : k = l.length := by omega
        subst hk'
        clear hlt hk hT HB
        go_wp2_with fail
        go_loop [12] (fun i => ∃ k : Nat, k ≤ l.length + 2 ∧ i = .int .i64 ((k : Int) - 1)) (fun i => l.length + 2 - (intOf i + 1).toNat)
        case atStart => exact ⟨0, by omega, by go_num⟩
        case round =>
          obtain ⟨k, hk, rfl⟩ := hrel
          by_cases hlt : k < l.length + 2
          · go_wp2_with fail
            refine (text_both HBr.out _).mono ?_
            rintro e w4 ⟨rfl, rfl⟩
            go_wp2_with fail
            refine (refText_both HBr.out _).mono ?_
            rintro e w4 ⟨rfl, rfl⟩
            generalize hp : textR T ((k : Int) - 1) = p
            clear hp
            go_wp2_with fail
            go_round
            case rel => exact ⟨k + 1, by omega, by go_num⟩
            case measure => simp [intOf]; omega
          · have hk' : k = l.length + 2 := by omega
            subst hk'
            clear hlt
            go_wp2_with fail
            refine (text_both HBr.out _).mono ?_
            rintro e w4 ⟨rfl, rfl⟩
            go_wp2_with fail
            refine (refText_both HBr.out _).mono ?_
            rintro e w4 ⟨rfl, rfl⟩
            generalize hp : textR T n = p
            clear hp
            go_wp2_with fail
            go_ret
            exact ⟨by simp, HBr.out.below⟩
  · have hlen' : 2000 < l.length := by omega
    clear hlen
    go_enter Try.func7, Try.ntmps7
    go_wp2_with (go_at_call 9; refine (known_any _).mono ?_; rintro e w1 ⟨rfl, hM1⟩)
    go_ret
    exact ⟨rfl, hM1.below (Nat.le_refl _) (fun _ h => h.elim)⟩

theorem wordAtoms_lifted (os : Os) (started : os.Started) (H : Type) (enc : TypeId × Value → H) :
    ReturnsInHanded {} Try.checked os 7 .any (Rows.wordAtomsSpec.pre6 enc Try.prog Try.f7 Rows.wordAtomsRow.domain false) (Rows.wordAtomsSpec.post enc Try.prog Try.f7 false true false false) := by
  refine lift_law started 7 Try.f7 Rows.wordAtomsSpec (by kernel_rfl) Try.func7 rfl rfl (by decide +kernel) ?_
    (ChangeSpec.witness6 (enc := enc) (C := Try.checked) false ⟨#[], #[.slice none 0 0, .int .i64 0], []⟩ 8 (by kernel_rfl) (by kernel_rfl) (by kernel_rfl) (by kernel_rfl)) ?_
  · intro ds hl
    match ds, hl with
    | [_, _], _ => rfl
  · intro W base args ds p hval hA _ _
    rw [Try.params7] at hA hval
    obtain ⟨v0, v1, d0, d1, p0, p1, rfl, rfl, rfl, h0, h1⟩ := trodAll_two hA
    obtain ⟨n, rfl, rfl, rfl, wn⟩ := open_int Try.underlying3 (hval 1 3 v1 rfl rfl) h1
    obtain ⟨a0, len, cap, rfl⟩ := okWide_slice Try.underlying44 (hval 0 44 v0 rfl rfl)
    obtain ⟨l, hl, hrow⟩ := arg_strings h0
    subst hl
    exact wordAtoms_any a0 cap l n W hrow

theorem wordAtoms_holds : Rows.WordAtomsSaid :=
  OpenClaim.holds_of_wide 7 Try.f7 rfl rfl rfl rfl rfl rfl rfl ⟨rfl, rfl, rfl, rfl, rfl⟩ rfl rfl rfl rfl rfl (by kernel_rfl) Try.func7 (by kernel_rfl)
    (of_decide_eq_true (by kernel_rfl)) (by unfold Func.isWrapper; first | (rw [if_pos (by decide +kernel)]; kernel_rfl) | (rw [if_neg (by decide +kernel)]; exact ⟨rfl, rfl⟩))
    (fun os started H enc _ => wordAtoms_lifted os started H enc)

end Go.Proofs.Ytlgkofgieceooaa
