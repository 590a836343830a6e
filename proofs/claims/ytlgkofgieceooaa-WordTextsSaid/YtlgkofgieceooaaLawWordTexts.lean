/- WordTexts: unlike texts have unlike numbers, which lie below how many there are; there and back: every row of at most 200 texts. No conditions. -/
import Derived.Test.YtlgkofgieceooaaArgStr
import Derived.Test.YtlgkofgieceooaaTextsPlain
import Derived.Deep.QuietTactic
import Derived.BigQuiet
import Derived.Lib.Hide
namespace Go.Proofs.Ytlgkofgieceooaa
open Go.ChangeShapes Go.WideShapes Go.ChangeAt Go.RowKit

theorem info_int : (Try.prog.info? 3).map (fun i => (i.zero, i.size, i.bytes)) = some (some (.int .i64 0), 1, 8) := by kernel_rfl

/-- The table, and the row of numbers. -/
structure TInv (B : Nat) (W w : World) (b m : Nat) (T : List ByteArray) (nv : Value) (N : List Int) : Prop where
  ex : ∃ sv, AtomsAt w b m sv T ∧ (∀ g, sv.ownBlock = some g → B ≤ g)
  row : w.ownsRow 0 3 1 nv N.length (N.map (Value.int .i64))
  rowB : ∀ g, nv.ownBlock = some g → B ≤ g
  below : Below B W w
  hB : B ≤ w.heap.size
  l1 : B ≤ b
  l2 : B ≤ m

theorem TInv.drewN {B : Nat} {W w : World} {b m : Nat} {T : List ByteArray} {nv : Value} {N : List Int} (h : TInv B W w b m T nv N) (n : Nat) : TInv B W (w.drewN n) b m T nv N := by
  obtain ⟨⟨sv, h1, h2⟩, h3, h4, h5, h6, h7, h8⟩ := h
  exact ⟨⟨sv, ⟨h1.blk, h1.row, h1.map, h1.nodup⟩, h2⟩, h3, h4, ⟨h5.os, h5.tape, h5.output, h5.size, h5.block⟩, h6, h7, h8⟩

theorem number_t {B : Nat} {W w : World} {b m : Nat} {T : List ByteArray} {nv : Value} {N : List Int} (h : TInv B W w b m T nv N) (s : ByteArray) (hL : T.length ≤ 1000000000) :
    Calls Try.prog 23 #[.pointer (some ⟨b, 0, none⟩), .string s] w fun e w' => e = .returned (.tuple #[.int .i64 (numR T s).1, .int .i64 (numR T s).2]) ∧ TInv B W w' b m (addT T s) nv N := by
  obtain ⟨⟨sv, h1, h2⟩, h3, h4, h5, h6, h7, h8⟩ := h
  refine (number_any s w h1 hL).mono ?_
  rintro e w' ⟨rfl, sv', hA, hM, hF⟩
  obtain ⟨es, clock, hmap, _⟩ := h1.map
  refine ⟨rfl, ⟨sv', hA, ?_⟩, ?_, h4, ?_, Nat.le_trans h6 hM.size, h7, h8⟩
  · intro g hg
    rcases hF with hF | hF
    · exact h2 g (hF ▸ hg)
    · have hge := hF g hg
      omega
  · refine own_keep hM h3 ?_
    rintro k hk (e | e | e)
    · exact own_ne_elem h3 (e ▸ h1.blk) (by decide) hk
    · exact own_ne_map h3 (e ▸ hmap) hk
    · obtain ⟨cur, hc⟩ := own_blk h1.row e.symm
      exact own_ne_elem h3 hc (by decide) hk
  · refine h5.trans (hM.below h6 ?_)
    rintro k (e | e | e)
    · omega
    · omega
    · exact h2 k e.symm

theorem text_t {B : Nat} {W w : World} {b m : Nat} {T : List ByteArray} {nv : Value} {N : List Int} (h : TInv B W w b m T nv N) (n : Int) :
    Calls Try.prog 26 #[.pointer (some ⟨b, 0, none⟩), .int .i64 n] w fun e w' => e = .returned (.tuple #[.string (textR T n).1, .bool (textR T n).2]) ∧ w' = w := by
  obtain ⟨⟨sv, h1, h2⟩, _⟩ := h
  exact text_any n w h1

theorem len_t {B : Nat} {W w : World} {b m : Nat} {T : List ByteArray} {nv : Value} {N : List Int} (h : TInv B W w b m T nv N) :
    Calls Try.prog 25 #[.pointer (some ⟨b, 0, none⟩)] w fun e w' => e = .returned (.int .i64 T.length) ∧ w' = w := by
  obtain ⟨⟨sv, h1, h2⟩, _⟩ := h
  exact len_any w h1

theorem TInv.app {B : Nat} {W w w' : World} {b m : Nat} {T : List ByteArray} {nv : Value} {N : List Int} (h : TInv B W w b m T nv N) {g sc : Nat} {z : Int}
    (hr : w'.ownsRow 0 3 1 (.slice (some ⟨g, 0, none⟩) (N.length + 1) sc) (N.length + 1) (N.map (Value.int .i64) ++ [.int .i64 z])) (hM : Mod (fun k => some k = nv.ownBlock) w w') (hf : nv.ownBlock = some g ∨ w.heap.size ≤ g) :
    TInv B W w' b m T (.slice (some ⟨g, 0, none⟩) (N.length + 1) sc) (N ++ [z]) := by
  obtain ⟨⟨sv, h1, h2⟩, h3, h4, h5, h6, h7, h8⟩ := h
  obtain ⟨es, clock, hmap, _⟩ := h1.map
  refine ⟨⟨sv, h1.keep hM ?_ ?_ ?_, h2⟩, ?_, ?_, ?_, Nat.le_trans h6 hM.size, h7, h8⟩
  · exact fun e => own_ne_elem h3 h1.blk (by decide) e.symm
  · exact fun e => own_ne_map h3 hmap e.symm
  · intro k hk e
    obtain ⟨cur, hc⟩ := own_blk h1.row hk
    exact own_ne_elem h3 hc (by decide) e.symm
  · simpa using hr
  · intro g' hg'
    have : g = g' := Option.some.inj hg'
    subst this
    rcases hf with hf | hf
    · exact h4 g hf
    · omega
  · exact h5.trans (hM.below h6 (fun k e => h4 k e.symm))

theorem ints_at {N : List Int} {k : Nat} {v : Value} (h : (N.map (Value.int .i64))[k]? = some v) : ∃ x, N[k]? = some x ∧ v = .int .i64 x := by
  rw [List.getElem?_map] at h
  cases hxs : N[k]? with
  | none => simp [hxs] at h
  | some x => simp [hxs] at h; exact ⟨x, rfl, h.symm⟩

set_option maxHeartbeats 4000000 in
set_option maxRecDepth 100000 in
theorem wordTexts_any (so : Option Addr) (cap : Nat) (l : List ByteArray) (w : World) (hl : ArgRow w.heap.size w (.slice so l.length cap) (l.map Value.string)) :
    Calls Try.prog 8 #[.slice so l.length cap] w fun e w' => e = .returned (.bool true) ∧ Below w.heap.size w w' := by
  by_cases hlen : l.length ≤ 200
  · obtain ⟨i, hi, hz0, hz1, hz2⟩ := info_parts info_int
    go_enter Try.func8, Try.ntmps8
    go_wp2_with (go_at_call 9; refine (known_any _).mono ?_; rintro e w1 ⟨rfl, hM1⟩)
    refine (newAtoms_any _).mono ?_
    rintro e w2 ⟨rfl, hA2, hM2⟩
    have hInv : TInv w.heap.size w w2 (w1.heap.size + 1) w1.heap.size [] (.slice none 0 0) [] := by
      have hz1 := hM1.size
      have hz2 := hM2.size
      exact ⟨⟨_, hA2, fun g hg => by cases hg⟩, World.ownsRow_nil _ _ _ _, (fun g hg => by cases hg),
        (hM1.below (Nat.le_refl _) (fun _ h => h.elim)).trans (hM2.below hz1 (fun _ h => h.elim)), by omega, by omega, by omega⟩
    have HB := Lib.hid hInv
    clear hInv hM1 hA2 hM2
    go_wp2_with fail
    generalize w1.heap.size + 1 = b at HB ⊢
    generalize w1.heap.size = m at HB
    go_loopw [4, 5] (fun nv i wr => ∃ (T : List ByteArray) (N : List Int), i = .int .i64 N.length ∧ Hid (TInv w.heap.size w wr b m T nv N) ∧ Hid (Numbered T l N) ∧ T.length ≤ N.length ∧ N.length ≤ l.length) (fun _ i _ => l.length - (intOf i).toNat)
    case atStart => exact ⟨[], [], rfl, HB, Lib.hid (Numbered.nil l), Nat.le_refl _, Nat.zero_le _⟩
    case round =>
      obtain ⟨T, N, rfl, HBr, HN, hT, hk⟩ := hrel
      by_cases hlt : N.length < l.length
      · have hx : l[N.length]? = some (l[N.length]) := List.getElem?_eq_getElem hlt
        obtain ⟨ab, ao, cap', he, hab, hcell⟩ := arg_str (hl.below HBr.out.below) hx
        injection he with he1 he2 he3
        subst he1
        subst he3
        generalize l[N.length] = x at hx hcell
        have hx0 := Lib.hid hx
        clear hx he2
        go_wp2_with fail
        refine (number_t HBr.out x (by omega)).mono ?_
        rintro e w4 ⟨rfl, hB4⟩
        obtain ⟨ab', ao', cap'', he, hab', hcell4⟩ := arg_str (hl.below hB4.below) hx0.out
        injection he with he1 he2 he3
        injection he1 with he1
        injection he1 with he1 he4
        subst he1
        subst he3
        subst he4
        have hT' := addT_len T x
        by_cases hs : 64 < x.size
        · have hR : numR T x = (0, 3) := by unfold numR; rw [if_pos hs]
          rw [hR]
          have hN' := Lib.hid (HN.out.long hx0.out hs)
          generalize addT T x = T' at hB4 hN' hT'
          obtain ⟨nso, nsc, rfl⟩ := own_slice hB4.row
          have hrow := hB4.row
          have HB4 := Lib.hid hB4
          clear hR hB4
          go_wp2_with (at_builtin; refine wpList_app1 _ rfl _ _ 58 rfl 0 3 i (.int .i64 0) 8 Try.underlying58 hi hz0 hz1 hz2 rfl _ _ _ rfl hrow (.int .i64 (-1)) rfl rfl (by omega) (by omega) (by omega) ?_)
          intro g5 sc5 w5 hr5 hM5 hf5
          have H5 := Lib.hid (HB4.out.app hr5 hM5 hf5)
          clear hr5 hM5 hf5 hrow
          go_wp2_with fail
          go_roundw
          case rel => exact ⟨T', N ++ [-1], by rw [List.length_append]; go_num, H5, hN', by simp; omega, by simp; omega⟩
          case measure => simp [intOf]; omega
        · have hs' : x.size ≤ 64 := by omega
          have hR : (numR T x).2 = 0 := by unfold numR; rw [if_neg hs]
          rw [hR]
          have hN' := Lib.hid (HN.out.short hx0.out hs')
          generalize addT T x = T' at hB4 hN' hT'
          generalize (numR T x).1 = z at hN' ⊢
          obtain ⟨nso, nsc, rfl⟩ := own_slice hB4.row
          have hrow := hB4.row
          have HB4 := Lib.hid hB4
          clear hR hB4 hs
          go_wp2_with (at_builtin; refine wpList_app1 _ rfl _ _ 58 rfl 0 3 i (.int .i64 0) 8 Try.underlying58 hi hz0 hz1 hz2 rfl _ _ _ rfl hrow (.int .i64 z) rfl rfl (by omega) (by omega) (by omega) ?_)
          intro g5 sc5 w5 hr5 hM5 hf5
          have H5 := Lib.hid (HB4.out.app hr5 hM5 hf5)
          clear hr5 hM5 hf5 hrow
          go_wp2_with fail
          go_roundw
          case rel => exact ⟨T', N ++ [z], by rw [List.length_append]; go_num, H5, hN', by simp; omega, by simp; omega⟩
          case measure => simp [intOf]; omega
      · have hge : l.length ≤ N.length := by omega
        have hdec : decide (N.length < l.length) = false := decide_eq_false hlt
        obtain ⟨nso, nsc, rfl⟩ := own_slice HBr.out.row
        clear hlt HB
        go_wp2_with fail
        go_loopw [8] (fun i wr => ∃ k : Nat, k ≤ l.length ∧ i = .int .i64 k ∧ Hid (TInv w.heap.size w wr b m T (.slice nso N.length nsc) N)) (fun i _ => l.length - (intOf i).toNat)
        case atStart => exact ⟨0, Nat.zero_le _, rfl, HBr⟩
        case round =>
          clear HBr
          obtain ⟨k, hkl, rfl, HBr⟩ := hrel
          by_cases hlt : k < l.length
          · obtain ⟨s, z, hs, hz, hsz⟩ := HN.out.2 k (by omega)
            obtain ⟨ab, ao, cap', he, hab, hcell⟩ := arg_str (hl.below HBr.out.below) hs
            injection he with he1 he2 he3
            subst he1
            subst he3
            obtain ⟨ng, nc, zv, he, hzv, hnc, hnc'⟩ := own_cell HBr.out.row (show k < N.length by omega)
            injection he with he1 he3 he4
            subst he1
            subst he4
            obtain ⟨z', hz', rfl⟩ := ints_at hzv
            obtain rfl : z = z' := Option.some.inj (hz.symm.trans hz')
            have hs0 := Lib.hid hs
            clear hz' hzv he2 he3 hs
            rcases hsz with ⟨hs1, rfl⟩ | ⟨hs1, j, rfl, hj⟩
            · clear hz
              go_wp2_with fail
              go_roundw
              case rel => exact ⟨k + 1, by omega, by go_num, HBr⟩
              case measure => simp [intOf]; omega
            · have hjT := (List.getElem?_eq_some_iff.1 hj).1
              have hR := textR_at hj
              have hj0 := Lib.hid hj
              have hzj := Lib.hid hz
              have htx : ∀ w', Hid (TInv w.heap.size w w' b m T (.slice (some ⟨ng, 0, none⟩) N.length nsc) N) → Calls Try.prog 26 #[.pointer (some ⟨b, 0, none⟩), .int .i64 j] w' fun e w'' => e = .returned (.tuple #[.string s, .bool true]) ∧ w'' = w' := fun w' H => by
                have := text_t H.out (j : Int)
                rwa [hR] at this
              have hd1 : decide ((j : Int) < 0) = false := decide_eq_false (by omega)
              have hd2 : decide (T.length ≤ j) = false := decide_eq_false (by omega)
              have hd3 : decide ((T.length : Int) ≤ (j : Int)) = false := decide_eq_false (by omega)
              clear hR hj hz
              go_wp2_with fail
              refine (htx _ HBr).mono ?_
              rintro e w4 ⟨rfl, rfl⟩
              clear htx
              go_wp2_with fail
              go_quiet ((go_at_call 25; exact Calls.quiet_of_same (len_t (HBr.out.drewN _))))
              go_wp2_with fail
              go_loopw [11] (fun i wr => ∃ q : Nat, q ≤ k ∧ i = .int .i64 q ∧ Hid (TInv w.heap.size w wr b m T (.slice (some ⟨ng, 0, none⟩) N.length nsc) N)) (fun i _ => k - (intOf i).toNat)
              case atStart => exact ⟨0, Nat.zero_le _, rfl, Lib.hid (HBr.out.drewN _)⟩
              case round =>
                clear HBr hcell hnc hnc'
                obtain ⟨q, hq, rfl, HBr⟩ := hrel
                by_cases hqk : q < k
                · obtain ⟨s2, z2, hs2, hz2', hsz2⟩ := HN.out.2 q (by omega)
                  obtain ⟨ab2, ao2, cap2, he, hab2, hcell2⟩ := arg_str (hl.below HBr.out.below) hs2
                  injection he with he1 he2 he3
                  injection he1 with he1
                  injection he1 with he1 he4
                  subst he1
                  subst he3
                  subst he4
                  obtain ⟨ab3, ao3, cap3, he, hab3, hcell3⟩ := arg_str (hl.below HBr.out.below) hs0.out
                  injection he with he1 he2 he3
                  injection he1 with he1
                  injection he1 with he1 he4
                  subst he1
                  subst he3
                  subst he4
                  obtain ⟨ng2, nc2, zv2, he, hzv2, hnc2, hnc2'⟩ := own_cell HBr.out.row (show q < N.length by omega)
                  injection he with he1 he3 he4
                  injection he1 with he1
                  injection he1 with he1
                  subst he1
                  subst he4
                  clear he3
                  obtain ⟨z3, hz3, rfl⟩ := ints_at hzv2
                  obtain rfl : z2 = z3 := Option.some.inj (hz2'.symm.trans hz3)
                  obtain ⟨ng4, nc4, zv4, he, hzv4, hnc4, hnc4'⟩ := own_cell HBr.out.row (show k < N.length by omega)
                  injection he with he1 he3 he4
                  injection he1 with he1
                  injection he1 with he1
                  subst he1
                  subst he4
                  clear he3
                  obtain ⟨z4, hz4, rfl⟩ := ints_at hzv4
                  obtain rfl : (j : Int) = z4 := Option.some.inj (hzj.out.symm.trans hz4)
                  obtain ⟨⟨sv, hsv, _⟩, _⟩ := HBr.out
                  have hn := hsv.nodup
                  clear hzv2 hz2' hz3 hzv4 hz4 hs2 hsv
                  rcases hsz2 with ⟨hs3, rfl⟩ | ⟨hs3, j2, rfl, hj2⟩
                  · go_wp2_with fail
                    go_quiet (fail)
                    go_wp2_with fail
                    go_roundw
                    case rel => exact ⟨q + 1, by omega, by go_num, Lib.hid (HBr.out.drewN _)⟩
                    case measure => simp [intOf]; omega
                  · obtain ⟨hp1, hp2⟩ := numbers_eq hn hj2 hj0.out
                    have hnn : (0 : Int) ≤ (j2 : Int) := by omega
                    clear hj2 hn
                    go_wp2_with fail
                    go_quiet (fail)
                    go_wp2_with fail
                    go_roundw
                    case rel => exact ⟨q + 1, by omega, by go_num, Lib.hid (HBr.out.drewN _)⟩
                    case measure => simp [intOf]; omega
                · have hq' : q = k := by omega
                  subst hq'
                  clear hqk
                  go_wp2_with fail
                  go_roundw
                  case rel => exact ⟨q + 1, by omega, by go_num, HBr⟩
                  case measure => simp [intOf]; omega
          · have hk' : k = l.length := by omega
            subst hk'
            clear hlt
            go_wp2_with fail
            go_ret
            exact ⟨rfl, HBr.out.below⟩
  · have hlen' : 200 < l.length := by omega
    clear hlen
    go_enter Try.func8, Try.ntmps8
    go_wp2_with (go_at_call 9; refine (known_any _).mono ?_; rintro e w1 ⟨rfl, hM1⟩)
    go_ret
    exact ⟨rfl, hM1.below (Nat.le_refl _) (fun _ h => h.elim)⟩

theorem wordTexts_lifted (os : Os) (started : os.Started) (H : Type) (enc : TypeId × Value → H) :
    ReturnsInHanded {} Try.checked os 8 .any (Rows.wordTextsSpec.pre6 enc Try.prog Try.f8 Rows.wordTextsRow.domain false) (Rows.wordTextsSpec.post enc Try.prog Try.f8 false true false false) := by
  refine lift_law started 8 Try.f8 Rows.wordTextsSpec (by kernel_rfl) Try.func8 rfl rfl (by decide +kernel) ?_
    (ChangeSpec.witness6 (enc := enc) (C := Try.checked) false ⟨#[], #[.slice none 0 0], []⟩ 8 (by kernel_rfl) (by kernel_rfl) (by kernel_rfl) (by kernel_rfl)) ?_
  · intro ds hl
    match ds, hl with
    | [_], _ => rfl
  · intro W base args ds p hval hA _ _
    rw [Try.params8] at hA hval
    obtain ⟨v0, d0, rfl, rfl, h0⟩ := trodAll_one hA
    obtain ⟨a0, len, cap, rfl⟩ := okWide_slice Try.underlying44 (hval 0 44 v0 rfl rfl)
    obtain ⟨l, hl, hrow⟩ := arg_strings h0
    subst hl
    exact wordTexts_any a0 cap l W hrow

theorem wordTexts_holds : Rows.WordTextsSaid :=
  OpenClaim.holds_of_wide 8 Try.f8 rfl rfl rfl rfl rfl rfl rfl ⟨rfl, rfl, rfl, rfl, rfl⟩ rfl rfl rfl rfl rfl (by kernel_rfl) Try.func8 (by kernel_rfl)
    (of_decide_eq_true (by kernel_rfl)) (by unfold Func.isWrapper; first | (rw [if_pos (by decide +kernel)]; kernel_rfl) | (rw [if_neg (by decide +kernel)]; exact ⟨rfl, rfl⟩))
    (fun os started H enc _ => wordTexts_lifted os started H enc)

end Go.Proofs.Ytlgkofgieceooaa
