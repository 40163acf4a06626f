/- chancerylaw4: the law DnAll: texts read again and again; every name and part is kept in the book. -/
import Derived.Test.YtegigcneimjimaaGreatDoorBdO
import Derived.Test.YtegigcneimjimaaGreatDoorDnAl
import Derived.Test.YtegigcneimjimaaGreatDoorDnRp
import Derived.Test.YtegigcneimjimaaGreatDoorOpenSt
namespace Go.Proofs.YtegigcneimjimaaGreatDoor
open Go.RowKit Go.Lib

theorem built_book : Tryz.prog.built 43 [] = some (bkRow (.slice none 0 0) (.slice none 0 0) (.slice none 0 0) (.slice none 0 0)) := by kernel_rfl
theorem wpList_build_book {ops : Array Oper} {rest : List Oper} {o : Oper} {a : Act} {w : World} {Q : Exit → Act → World → Prop} (hg : o.guard = none) (ho : o.op = .build 43 #[])
    (h : wpList Tryz.prog ops Q rest (a.put o.dst (.agg (bkRow (.slice none 0 0) (.slice none 0 0) (.slice none 0 0) (.slice none 0 0)))) w) : wpList Tryz.prog ops Q (o :: rest) a w :=
  wpList_build hg _ _ ho (by rw [show (Array.map _ #[] : Array (Nat × Value)).toList = [] from by simp, built_book]; rfl) (by rw [show (Array.map _ #[] : Array (Nat × Value)).toList = [] from by simp, built_book]; exact h)
set_option maxRecDepth 100000 in
set_option maxHeartbeats 8000000 in
theorem DnAll_any (v : Value) (ls : List (List UInt8)) (w : World) (h : TxtM w v ls) (hs : ∀ s ∈ ls, s.length ≤ 140737488351232) (hE : Env w) :
    Calls Tryz.prog 4 #[v] w fun e w' => e = .returned (.bool true) ∧ Below w.heap.size w w' := by
  obtain ⟨a, cap, hv, hc, hr⟩ := h
  subst hv
  have HS := Lib.hid hs
  have HR := Lib.hid hr
  have HE := Lib.hid hE
  have k1 := alive_any w hE
  clear hs hr hE
  go_enter Tryz.func4, Tryz.ntmps4
  go_wp2_with fail
  refine Calls.mono (show Calls _ _ _ _ _ from k1) ?_
  rintro e w1 ⟨rfl, hb1⟩
  clear k1
  by_cases hbig : 20 < ls.length
  · have q0 : decide ((20 : Int) < (ls.length : Int)) = true := decide_eq_true (by omega)
    have k2 := alive_any w1 (HE.out.below hb1)
    go_wp2_with fail
    refine Calls.mono (show Calls _ _ _ _ _ from k2) ?_
    rintro e w2 ⟨rfl, hb2⟩
    go_wp2_with fail
    go_ret
    exact ⟨rfl, below_ext hb1 hb2⟩
  · have q0 : decide ((20 : Int) < (ls.length : Int)) = false := decide_eq_false (by omega)
    have hI := BkI.new (B := w1.heap.size) w1 (Nat.le_refl _)
    have b1a := (Below.refl w1.heap.size w1).alloc (Nat.le_refl _) (.cells (bkRow (.slice none 0 0) (.slice none 0 0) (.slice none 0 0) (.slice none 0 0)) 43)
    have h1 := hb1.size
    go_wp2_with (refine wpList_build_book rfl rfl ?_)
    go_loopw [4] (fun q wr => ∃ k : Nat, q = .int .i64 (k : Int) ∧ k ≤ 2 * ls.length ∧ BkI w1.heap.size (fun b => b < wr.heap.size) wr w1.heap.size ∧ Kd w1.heap.size w1 wr) (fun q _ => 2 * ls.length - (RowKit.intOf q).toNat)
    case atStart => exact ⟨0, rfl, by omega, hI.mono (fun _ h => h.elim), Kd.of_below b1a⟩
    case round =>
      obtain ⟨k, rfl, hk, hbk, hkd⟩ := hrel
      clear hI
      have hBw : Below w1.heap.size w1 wr := hkd.below (Nat.le_refl _)
      have hww : Below w.heap.size w wr := hb1.trans (hBw.mono h1)
      have hBr : w1.heap.size ≤ wr.heap.size := hkd.size
      by_cases hkn : k < 2 * ls.length
      · have hn : 0 < ls.length := by omega
        obtain ⟨g, o, ha, hcell⟩ := HR.out (fun h0 => by rw [h0] at hn; cases hn)
        subst ha
        have hm : k % ls.length < ls.length := Nat.mod_lt _ hn
        obtain ⟨s, hsk⟩ : ∃ s, ls[k % ls.length]? = some s := ⟨_, List.getElem?_eq_getElem hm⟩
        have hsl := HS.out s (List.mem_of_getElem? hsk)
        have hc0 := hcell _ s hsk
        clear hcell hsk
        have hc1 := (hww.cell (lt_of_cell hc0)).trans hc0
        have kp := Parse_own s wr hsl (HE.out.below hww)
        obtain ⟨d, n0, hdn⟩ : ∃ d n0, parseB s = (d, n0) := ⟨_, _, rfl⟩
        have hlen := parseB_len s
        have krp := fun w2 => RParse_any s w2 hsl
        rw [hdn] at kp hlen
        simp only [hdn] at krp
        simp only at kp hlen
        have HL := Lib.hid hlen
        have KR := Lib.hid krp
        have i3 : decide ((k : Int) < 2 * (ls.length : Int)) = true := decide_eq_true (by omega)
        have i4 : (k : Int).tmod (ls.length : Int) = ((k % ls.length : Nat) : Int) := (Int.ofNat_tmod _ _).symm
        clear hlen krp hdn
        go_wp2_with fail
        refine Calls.mono (show Calls _ _ _ _ _ from kp) ?_
        rintro e w2 ⟨⟨dv, rfl, hdv⟩, hb2⟩
        have hc2 := (hb2.cell (lt_of_cell hc1)).trans hc1
        have k3 := KR.out w2
        clear kp
        go_wp2_with fail
        refine Calls.mono (show Calls _ _ _ _ _ from k3) ?_
        rintro e w3 ⟨⟨rv, rfl, hrv⟩, hb3⟩
        have HV := Lib.hid hdv
        have k4 := Same_any dv rv d d w3 (hdv.at.below hb3) hrv (by have := HL.out.1; omega) (by have := HL.out.1; omega) (fun x hx => by have := HL.out.2 x hx; omega) (fun x hx => by have := HL.out.2 x hx; omega)
        simp only [decide_true] at k4
        clear hdv hrv k3 hc2
        go_wp2_with fail
        refine Calls.mono (show Calls _ _ _ _ _ from k4) ?_
        rintro e w4 ⟨rfl, hb4⟩
        have b24 := below_ext hb3 hb4
        have b04 := below_ext hb2 b24
        have h2 := hb2.size
        have h4 := b24.size
        have k5 := Dn_bk w1.heap.size w1.heap.size wr.heap.size w2.heap.size (fun b => b < wr.heap.size) dv d w4 (hbk.below b04) (HV.out.h.kd (Kd.of_below (B := w1.heap.size) b24)) hBr (fun _ h => h) h2 (by have := HL.out.1; omega) (fun x hx => by have := HL.out.2 x hx; omega) (by omega)
        clear k4 hbk
        go_wp2_with fail
        refine Calls.mono (show Calls _ _ _ _ _ from k5) ?_
        rintro e w5 ⟨rfl, hI5, hk5⟩
        clear k5
        have h5 := hk5.size
        have d5 := (hkd.trans (Kd.of_below (B := w1.heap.size) b04)).trans hk5
        have e5 : Below w.heap.size w w5 := hb1.trans ((d5.below (Nat.le_refl _)).mono h1)
        have hc5 := (e5.cell (lt_of_cell hc0)).trans hc0
        have k6 := ParseRdn_own s w5 hsl (HE.out.below e5)
        obtain ⟨r, n1, hrn⟩ : ∃ r n1, partRB s = (r, n1) := ⟨_, _, rfl⟩
        have hrl := partRB_len s
        rw [hrn] at k6 hrl
        simp only at k6 hrl
        clear hc1 hrn
        go_wp2_with fail
        refine Calls.mono (show Calls _ _ _ _ _ from k6) ?_
        rintro e w6 ⟨⟨pv, rfl, hpv⟩, hb6⟩
        have h6 := hb6.size
        have HP := Lib.hid hpv
        have k7 := Avas_bk w1.heap.size w1.heap.size w5.heap.size (fun b => b < w2.heap.size) pv r w6 (hI5.below hb6) hpv (by omega) (by omega) (by omega) (fun b hb hf => by have := (HP.out.lt b hb).1; omega)
        clear k6 hpv hI5
        go_wp2_with fail
        refine Calls.mono (show Calls _ _ _ _ _ from k7) ?_
        rintro e w7 ⟨rfl, hI7, hk7⟩
        have h7 := hk7.size
        have hI8 := hI7.mono (F' := fun b => b < w7.heap.size) (fun b hb => by
          rcases hb with hb | hb
          · omega
          · have := (HP.out.lt b hb).2; omega)
        have d7 := (d5.trans (Kd.of_below (B := w1.heap.size) hb6)).trans hk7
        clear k7 hI7 hc0 hc5
        go_wp2_with fail
        go_roundw
        case rel => exact ⟨k + 1, by go_num, by omega, hI8, d7⟩
        case measure => simp [RowKit.intOf]; omega
      · obtain rfl : k = 2 * ls.length := by omega
        have i3 : decide (((2 * ls.length : Nat) : Int) < 2 * (ls.length : Int)) = false := decide_eq_false (by omega)
        have k8 := Apart_any w1.heap.size w1.heap.size _ wr hbk hBr
        clear hbk
        go_wp2_with fail
        refine Calls.mono (show Calls _ _ _ _ _ from k8) ?_
        rintro e w9 ⟨rfl, hb9⟩
        go_wp2_with fail
        go_ret
        exact ⟨rfl, hb1.trans ((hBw.trans hb9).mono h1)⟩
end Go.Proofs.YtegigcneimjimaaGreatDoor
