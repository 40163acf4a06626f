/- chancerybook: a name and its parts are kept. -/
import Derived.Test.YtegigcneimjimaaGreatDoorBdL
namespace Go.Proofs.YtegigcneimjimaaGreatDoor
open Go.RowKit Go.Lib

set_option maxRecDepth 100000 in
set_option maxHeartbeats 4000000 in
theorem Dn_bk (B p M H : Nat) (F : Nat → Prop) (v : Value) (d : List (List Av)) (w : World) (h : BkI B F w p) (hv : OwnH M H w v d) (hBM : B ≤ M) (hF : ∀ k, F k → k < M) (hMH : M ≤ H) (hl : d.length ≤ 1000) (hr : ∀ r ∈ d, r.length ≤ 500000) (hB : B ≤ w.heap.size) :
    Calls Tryz.prog 19 #[.pointer (some ⟨p, 0, none⟩), v] w fun e w' => e = .returned (.tuple #[]) ∧ BkI B (fun k => k < H) w' p ∧ Kd B w w' := by
  have hd := hv.d
  obtain ⟨xs, ho, ha, hs, hvH, hxH⟩ := hv
  obtain ⟨av, cv, hve⟩ := sl_of ho
  subst hve
  have hxl : xs.length = d.length := by have := ho.1; omega
  have HA := Lib.hid ha
  have HS := Lib.hid hs
  have HX := Lib.hid hxH
  have HV := Lib.hid hvH
  have HR := Lib.hid hr
  have HF := Lib.hid hF
  have HL := Lib.hid hxl
  clear ha hs hxH hvH hr hF hxl
  go_enter Tryz.func19, Tryz.ntmps19
  go_wp2_with fail
  go_loopw [4] (fun q wr => ∃ k : Nat, q = .int .i64 (k : Int) ∧ k ≤ d.length ∧ BkI B (fun b => F b ∨ ∃ j x, j < k ∧ xs[j]? = some x ∧ x.ownBlock = some b) wr p ∧ Kd B w wr) (fun q _ => d.length - (RowKit.intOf q).toNat)
  case atStart => exact ⟨0, rfl, by omega, h.mono (fun k hk => .inl hk), Kd.refl _ _⟩
  case round =>
    obtain ⟨k, rfl, hk, hbk, hkd⟩ := hrel
    clear h
    have ho1 := hkd.own ho (by decide)
    have hBr : B ≤ wr.heap.size := Nat.le_trans hB hkd.size
    by_cases hkn : k < d.length
    · obtain ⟨r, hrk⟩ : ∃ r, d[k]? = some r := ⟨d[k], List.getElem?_eq_getElem hkn⟩
      obtain ⟨x, hxk, hox⟩ := HA.out k r hrk
      have hrl := HR.out r (List.mem_of_getElem? hrk)
      obtain ⟨ga, ca, hae, hca⟩ := own_at ho1 hxk
      cases hae
      have hox1 := hkd.own hox (by decide)
      have kc := Avas_bk B p M _ x r wr hbk hox1 hBM hrl hBr (fun b hb hf => by
        rcases hf with hf | ⟨j, y, hj, hy, hyb⟩
        · have := HF.out b hf; have := (hox.lt b hb).1; omega
        · exact HS.out k j x y b (by omega) hxk hy hb hyb)
      obtain ⟨ax, cx, hxe⟩ := sl_of hox
      have HXK := Lib.hid hxk
      subst hxe
      have i1 : (k : Int) < (d.length : Int) := by omega
      have i3 : decide ((k : Int) < (d.length : Int)) = true := decide_eq_true i1
      clear hrk hox hox1 hbk ho1 hxk
      go_wp2_with (go_at_call 21; refine Calls.mono (show Calls _ _ _ _ _ from kc) ?_; rintro e w4 ⟨rfl, hb4, hk4⟩)
      have hb5 : BkI B (fun b => F b ∨ ∃ j x, j < k + 1 ∧ xs[j]? = some x ∧ x.ownBlock = some b) w4 p := hb4.mono (fun b hb => by
        rcases hb with (hb | ⟨j, y, hj, hy, hyb⟩) | hb
        · exact .inl hb
        · exact .inr ⟨j, y, by omega, hy, hyb⟩
        · exact .inr ⟨k, _, by omega, HXK.out, hb⟩)
      clear hb4 kc hca
      go_wp2_with fail
      go_roundw
      case rel => exact ⟨k + 1, by go_num, by omega, hb5, hkd.trans hk4⟩
      case measure => simp [RowKit.intOf]; omega
    · obtain rfl : k = d.length := by omega
      have i3 : decide (((d.length : Nat) : Int) < (d.length : Int)) = false := decide_eq_false (by omega)
      have kc := Rdns_bk B p M _ (.slice av d.length cv) d wr hbk (hd.kd hkd) hBM hl HR.out hBr (fun b hb hf => by
        rcases hf with hf | ⟨j, y, hj, hy, hyb⟩
        · have := HF.out b hf; have := (ho.lt b hb).1; omega
        · obtain ⟨u, h1, h2⟩ := HA.out j d[j] (List.getElem?_eq_getElem hj)
          rw [hy] at h1
          cases h1
          exact absurd ((own_ty ho hb).eq (own_ty h2 hyb)) (by decide))
      clear hbk hd
      go_wp2_with (go_at_call 121; refine Calls.mono (show Calls _ _ _ _ _ from kc) ?_; rintro e w4 ⟨rfl, hb4, hk4⟩)
      have hb5 : BkI B (fun b => b < H) w4 p := hb4.mono (fun b hb => by
        rcases hb with (hb | ⟨j, y, hj, hy, hyb⟩) | hb
        · exact Nat.lt_of_lt_of_le (HF.out b hb) hMH
        · exact HX.out y (List.mem_of_getElem? hy) b hyb
        · exact HV.out b hb)
      first | go_end0 | refine bodyPost_ret (v := .tuple #[]) (by simp [results, Tryz.results19, go_sem]) rfl ?_
      exact ⟨rfl, hb5, hkd.trans hk4⟩
end Go.Proofs.YtegigcneimjimaaGreatDoor
