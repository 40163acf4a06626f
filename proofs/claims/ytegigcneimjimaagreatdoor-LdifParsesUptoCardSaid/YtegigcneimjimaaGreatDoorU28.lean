/- BgD. -/
import Derived.Test.YtegigcneimjimaaGreatDoorU24
import Derived.Test.YtegigcneimjimaaGreatDoorU25
import Derived.Test.YtegigcneimjimaaGreatDoorU27
namespace Go.Proofs.YtegigcneimjimaaGreatDoor
open Go.RowKit Go.Lib
set_option maxRecDepth 100000
set_option maxHeartbeats 16000000
def nilF (i : Nat) : Bool := !(i == 0 || i == 1 || i == 4 || i == 5 || i == 8 || i == 9 || i == 24 || i == 25)
def BkI (B : Nat) (F : Nat → Prop) (w : World) (p : Nat) : Prop :=
  ∃ b, BF w p b ∧ B ≤ p ∧ (∀ i, nilF i = true → b i = .slice none 0 0) ∧ KI 58 TO OkT B F w (b 0) (b 1) ∧ KI 44 AO OkA B F w (b 4) (b 5) ∧ KI 45 MO OkM B F w (b 8) (b 9) ∧ KI 51 CO OkC B F w (b 24) (b 25)
theorem BkI.mono {B p : Nat} {F F' : Nat → Prop} {w : World} (h : BkI B F w p) (hF : ∀ k, F k → F' k) : BkI B F' w p := by
  obtain ⟨b, h0, hp, hn, h1, h2, h3, h4⟩ := h
  exact ⟨b, h0, hp, hn, h1.mono hF, h2.mono hF, h3.mono hF, h4.mono hF⟩
theorem BkI.below {B p : Nat} {F : Nat → Prop} {w w' : World} (h : BkI B F w p) (hb : Below w.heap.size w w') : BkI B F w' p := by
  obtain ⟨b, h0, hp, hn, h1, h2, h3, h4⟩ := h
  have hk : KG (fun _ => False) w w' := KG.of_below hb
  exact ⟨b, h0.below hb, hp, hn, h1.kg hk (fun _ h => h.elim) (fun _ _ h => h.below hb), h2.kg hk (fun _ h => h.elim) (fun _ _ h => h.below hb), h3.kg hk (fun _ h => h.elim) (fun _ _ h => h.below hb), h4.kg hk (fun _ h => h.elim) (fun _ _ h => h.below hb)⟩
theorem KI.nil {T : Type} (L : TypeId) (XO : Nat → World → Value → T → Prop) (ok : T → Prop) (B : Nat) (F : Nat → Prop) (w : World) : KI L XO ok B F w (.slice none 0 0) (.slice none 0 0) :=
  ⟨[], [], [], World.ownsRow_nil _ _ _ _, World.ownsRow_nil _ _ _ _, fun k hk => (by cases hk), ⟨Nat.zero_le _, rfl, rfl⟩, fun i l hi => (by simp at hi), Sep.nil, fun v hv => (by cases hv)⟩
theorem BkI.new {B : Nat} (w : World) (hB : B ≤ w.heap.size) : BkI B (fun _ => False) (w.alloc (.cells (bkF fun _ => .slice none 0 0) 43)) w.heap.size :=
  ⟨_, bf_new w, hB, fun _ _ => rfl, KI.nil _ _ _ _ _ _, KI.nil _ _ _ _ _ _, KI.nil _ _ _ _ _ _, KI.nil _ _ _ _ _ _⟩
theorem Texts_bk (B p Bv : Nat) (F : Nat → Prop) (v : Value) (l : List (List UInt8)) (w : World) (h : BkI B F w p) (hv : TO Bv w v l) (hBv : B ≤ Bv) (hl : OkT l) (hB : B ≤ w.heap.size) (hF : ∀ k, v.ownBlock = some k → ¬ F k) :
    Calls Tryz.prog 156 #[.pointer (some ⟨p, 0, none⟩), v] w fun e w' => e = .returned (.tuple #[]) ∧ BkI B (fun k => F k ∨ v.ownBlock = some k) w' p ∧ Kd B w w' := by
  obtain ⟨b, h0, hp, hn, hK0, hK1, hK2, hK3⟩ := h
  obtain ⟨vs, us, ls, h1, h2, h3, ⟨n1, n2, n3⟩, h8, h9, h10⟩ := id hK0
  refine (Texts_any p (b 0) (b 1) v b B vs.length vs us l w h0 rfl rfl h1 (by rw [← n2]; exact h2) Bv hv hl hB h3 n1).mono ?_
  rintro e w' ⟨rfl, hpost⟩
  have gk : KG (fun k => k = p ∨ (b 0).ownBlock = some k ∨ (b 1).ownBlock = some k) w w' := by
    obtain ⟨_, _, _, _, _, _, _, _, gk, _⟩ := hpost
    exact gk
  have hkd : Kd B w w' := Kd.of_kg gk (fun k hk => by
    rcases hk with rfl | hk | hk
    · exact ⟨hp, _, h0.ty, by decide⟩
    · exact ⟨(h1.lt k hk).1, _, own_ty h1 hk, by decide⟩
    · exact ⟨(h2.lt k hk).1, _, own_ty h2 hk, by decide⟩)
  have hG : ∀ k, (k = p ∨ (b 0).ownBlock = some k ∨ (b 1).ownBlock = some k) → ∃ t, Ty w k t ∧ (t = 43 ∨ t = 58) := fun k hk => by
    rcases hk with rfl | hk | hk
    · exact ⟨_, h0.ty, .inl rfl⟩
    · exact ⟨_, own_ty h1 hk, .inr rfl⟩
    · exact ⟨_, own_ty h2 hk, .inr rfl⟩
  obtain ⟨a', c', g0, gT⟩ := ki_add n1 n2 n3 h8 h9 h10 (fun _ _ h => h.kept hkd.same) (hv.mono hBv) hl hF hpost
  refine ⟨rfl, ⟨_, g0, hp, fun i hi => ?_, gT, (hK1.kg gk (fun k hk => by obtain ⟨t, e1, e2⟩ := hG k hk; exact ⟨t, e1, by rcases e2 with rfl | rfl <;> decide⟩) (fun _ _ h => h.kept hkd.same)).mono (fun _ h => .inl h), (hK2.kg gk (fun k hk => by obtain ⟨t, e1, e2⟩ := hG k hk; exact ⟨t, e1, by rcases e2 with rfl | rfl <;> decide⟩) (fun _ _ h => h.kept hkd.same)).mono (fun _ h => .inl h), (hK3.kg gk (fun k hk => by obtain ⟨t, e1, e2⟩ := hG k hk; exact ⟨t, e1, by rcases e2 with rfl | rfl <;> decide⟩) (fun _ _ h => h.kept hkd.same)).mono (fun _ h => .inl h)⟩, hkd⟩
  rw [upd_ne _ _ (fun e => by subst e; cases hi), upd_ne _ _ (fun e => by subst e; cases hi)]
  exact hn i hi
theorem Attrs_bk (B p Bv : Nat) (F : Nat → Prop) (v : Value) (l : List At) (w : World) (h : BkI B F w p) (hv : AO Bv w v l) (hBv : B ≤ Bv) (hl : OkA l) (hB : B ≤ w.heap.size) (hF : ∀ k, v.ownBlock = some k → ¬ F k) :
    Calls Tryz.prog 157 #[.pointer (some ⟨p, 0, none⟩), v] w fun e w' => e = .returned (.tuple #[]) ∧ BkI B (fun k => F k ∨ v.ownBlock = some k) w' p ∧ Kd B w w' := by
  obtain ⟨b, h0, hp, hn, hK0, hK1, hK2, hK3⟩ := h
  obtain ⟨vs, us, ls, h1, h2, h3, ⟨n1, n2, n3⟩, h8, h9, h10⟩ := id hK1
  refine (Attrs_any p (b 4) (b 5) v b B vs.length vs us l w h0 rfl rfl h1 (by rw [← n2]; exact h2) Bv hv hl hB h3 n1).mono ?_
  rintro e w' ⟨rfl, hpost⟩
  have gk : KG (fun k => k = p ∨ (b 4).ownBlock = some k ∨ (b 5).ownBlock = some k) w w' := by
    obtain ⟨_, _, _, _, _, _, _, _, gk, _⟩ := hpost
    exact gk
  have hkd : Kd B w w' := Kd.of_kg gk (fun k hk => by
    rcases hk with rfl | hk | hk
    · exact ⟨hp, _, h0.ty, by decide⟩
    · exact ⟨(h1.lt k hk).1, _, own_ty h1 hk, by decide⟩
    · exact ⟨(h2.lt k hk).1, _, own_ty h2 hk, by decide⟩)
  have hG : ∀ k, (k = p ∨ (b 4).ownBlock = some k ∨ (b 5).ownBlock = some k) → ∃ t, Ty w k t ∧ (t = 43 ∨ t = 44) := fun k hk => by
    rcases hk with rfl | hk | hk
    · exact ⟨_, h0.ty, .inl rfl⟩
    · exact ⟨_, own_ty h1 hk, .inr rfl⟩
    · exact ⟨_, own_ty h2 hk, .inr rfl⟩
  obtain ⟨a', c', g0, gT⟩ := ki_add n1 n2 n3 h8 h9 h10 (fun _ _ h => h.kept hkd.same) (hv.mono hBv) hl hF hpost
  refine ⟨rfl, ⟨_, g0, hp, fun i hi => ?_, (hK0.kg gk (fun k hk => by obtain ⟨t, e1, e2⟩ := hG k hk; exact ⟨t, e1, by rcases e2 with rfl | rfl <;> decide⟩) (fun _ _ h => h.kept hkd.same)).mono (fun _ h => .inl h), gT, (hK2.kg gk (fun k hk => by obtain ⟨t, e1, e2⟩ := hG k hk; exact ⟨t, e1, by rcases e2 with rfl | rfl <;> decide⟩) (fun _ _ h => h.kept hkd.same)).mono (fun _ h => .inl h), (hK3.kg gk (fun k hk => by obtain ⟨t, e1, e2⟩ := hG k hk; exact ⟨t, e1, by rcases e2 with rfl | rfl <;> decide⟩) (fun _ _ h => h.kept hkd.same)).mono (fun _ h => .inl h)⟩, hkd⟩
  rw [upd_ne _ _ (fun e => by subst e; cases hi), upd_ne _ _ (fun e => by subst e; cases hi)]
  exact hn i hi
theorem Mods_bk (B p Bv : Nat) (F : Nat → Prop) (v : Value) (l : List Md) (w : World) (h : BkI B F w p) (hv : MO Bv w v l) (hBv : B ≤ Bv) (hl : OkM l) (hB : B ≤ w.heap.size) (hF : ∀ k, v.ownBlock = some k → ¬ F k) :
    Calls Tryz.prog 158 #[.pointer (some ⟨p, 0, none⟩), v] w fun e w' => e = .returned (.tuple #[]) ∧ BkI B (fun k => F k ∨ v.ownBlock = some k) w' p ∧ Kd B w w' := by
  obtain ⟨b, h0, hp, hn, hK0, hK1, hK2, hK3⟩ := h
  obtain ⟨vs, us, ls, h1, h2, h3, ⟨n1, n2, n3⟩, h8, h9, h10⟩ := id hK2
  refine (Mods_any p (b 8) (b 9) v b B vs.length vs us l w h0 rfl rfl h1 (by rw [← n2]; exact h2) Bv hv hl hB h3 n1).mono ?_
  rintro e w' ⟨rfl, hpost⟩
  have gk : KG (fun k => k = p ∨ (b 8).ownBlock = some k ∨ (b 9).ownBlock = some k) w w' := by
    obtain ⟨_, _, _, _, _, _, _, _, gk, _⟩ := hpost
    exact gk
  have hkd : Kd B w w' := Kd.of_kg gk (fun k hk => by
    rcases hk with rfl | hk | hk
    · exact ⟨hp, _, h0.ty, by decide⟩
    · exact ⟨(h1.lt k hk).1, _, own_ty h1 hk, by decide⟩
    · exact ⟨(h2.lt k hk).1, _, own_ty h2 hk, by decide⟩)
  have hG : ∀ k, (k = p ∨ (b 8).ownBlock = some k ∨ (b 9).ownBlock = some k) → ∃ t, Ty w k t ∧ (t = 43 ∨ t = 45) := fun k hk => by
    rcases hk with rfl | hk | hk
    · exact ⟨_, h0.ty, .inl rfl⟩
    · exact ⟨_, own_ty h1 hk, .inr rfl⟩
    · exact ⟨_, own_ty h2 hk, .inr rfl⟩
  obtain ⟨a', c', g0, gT⟩ := ki_add n1 n2 n3 h8 h9 h10 (fun _ _ h => h.kept hkd.same) (hv.mono hBv) hl hF hpost
  refine ⟨rfl, ⟨_, g0, hp, fun i hi => ?_, (hK0.kg gk (fun k hk => by obtain ⟨t, e1, e2⟩ := hG k hk; exact ⟨t, e1, by rcases e2 with rfl | rfl <;> decide⟩) (fun _ _ h => h.kept hkd.same)).mono (fun _ h => .inl h), (hK1.kg gk (fun k hk => by obtain ⟨t, e1, e2⟩ := hG k hk; exact ⟨t, e1, by rcases e2 with rfl | rfl <;> decide⟩) (fun _ _ h => h.kept hkd.same)).mono (fun _ h => .inl h), gT, (hK3.kg gk (fun k hk => by obtain ⟨t, e1, e2⟩ := hG k hk; exact ⟨t, e1, by rcases e2 with rfl | rfl <;> decide⟩) (fun _ _ h => h.kept hkd.same)).mono (fun _ h => .inl h)⟩, hkd⟩
  rw [upd_ne _ _ (fun e => by subst e; cases hi), upd_ne _ _ (fun e => by subst e; cases hi)]
  exact hn i hi
theorem Changes_bk (B p Bv : Nat) (F : Nat → Prop) (v : Value) (l : List Chg) (w : World) (h : BkI B F w p) (hv : CO Bv w v l) (hBv : B ≤ Bv) (hl : OkC l) (hB : B ≤ w.heap.size) (hF : ∀ k, v.ownBlock = some k → ¬ F k) :
    Calls Tryz.prog 41 #[.pointer (some ⟨p, 0, none⟩), v] w fun e w' => e = .returned (.tuple #[]) ∧ BkI B (fun k => F k ∨ v.ownBlock = some k) w' p ∧ Kd B w w' := by
  obtain ⟨b, h0, hp, hn, hK0, hK1, hK2, hK3⟩ := h
  obtain ⟨vs, us, ls, h1, h2, h3, ⟨n1, n2, n3⟩, h8, h9, h10⟩ := id hK3
  refine (Changes_any p (b 24) (b 25) v b B vs.length vs us l w h0 rfl rfl h1 (by rw [← n2]; exact h2) Bv hv hl hB h3 n1).mono ?_
  rintro e w' ⟨rfl, hpost⟩
  have gk : KG (fun k => k = p ∨ (b 24).ownBlock = some k ∨ (b 25).ownBlock = some k) w w' := by
    obtain ⟨_, _, _, _, _, _, _, _, gk, _⟩ := hpost
    exact gk
  have hkd : Kd B w w' := Kd.of_kg gk (fun k hk => by
    rcases hk with rfl | hk | hk
    · exact ⟨hp, _, h0.ty, by decide⟩
    · exact ⟨(h1.lt k hk).1, _, own_ty h1 hk, by decide⟩
    · exact ⟨(h2.lt k hk).1, _, own_ty h2 hk, by decide⟩)
  have hG : ∀ k, (k = p ∨ (b 24).ownBlock = some k ∨ (b 25).ownBlock = some k) → ∃ t, Ty w k t ∧ (t = 43 ∨ t = 51) := fun k hk => by
    rcases hk with rfl | hk | hk
    · exact ⟨_, h0.ty, .inl rfl⟩
    · exact ⟨_, own_ty h1 hk, .inr rfl⟩
    · exact ⟨_, own_ty h2 hk, .inr rfl⟩
  obtain ⟨a', c', g0, gT⟩ := ki_add n1 n2 n3 h8 h9 h10 (fun _ _ h => h.kept hkd.same) (hv.mono hBv) hl hF hpost
  refine ⟨rfl, ⟨_, g0, hp, fun i hi => ?_, (hK0.kg gk (fun k hk => by obtain ⟨t, e1, e2⟩ := hG k hk; exact ⟨t, e1, by rcases e2 with rfl | rfl <;> decide⟩) (fun _ _ h => h.kept hkd.same)).mono (fun _ h => .inl h), (hK1.kg gk (fun k hk => by obtain ⟨t, e1, e2⟩ := hG k hk; exact ⟨t, e1, by rcases e2 with rfl | rfl <;> decide⟩) (fun _ _ h => h.kept hkd.same)).mono (fun _ h => .inl h), (hK2.kg gk (fun k hk => by obtain ⟨t, e1, e2⟩ := hG k hk; exact ⟨t, e1, by rcases e2 with rfl | rfl <;> decide⟩) (fun _ _ h => h.kept hkd.same)).mono (fun _ h => .inl h), gT⟩, hkd⟩
  rw [upd_ne _ _ (fun e => by subst e; cases hi), upd_ne _ _ (fun e => by subst e; cases hi)]
  exact hn i hi
theorem Dist.sep {us : List Value} (h : Dist us) : Sep us := fun i j u v k hne hi hj hu => h i j u v hi hj hne k hu
theorem Attr_bk (B p M : Nat) (F : Nat → Prop) (v : Value) (us : List Value) (l : List At) (w : World) (h : BkI B F w p) (hv : OwnA M w v l us) (hs : Sep us) (hBM : B ≤ M) (hF : ∀ k, (v.ownBlock = some k ∨ ∃ u ∈ us, u.ownBlock = some k) → ¬ F k) (hl : OkA l) (hB : B ≤ w.heap.size) :
    Calls Tryz.prog 39 #[.pointer (some ⟨p, 0, none⟩), v] w fun e w' => e = .returned (.tuple #[]) ∧ BkI B (fun k => F k ∨ v.ownBlock = some k ∨ ∃ u ∈ us, u.ownBlock = some k) w' p ∧ Kd B w w' := by
  have hX : AO M w v l := ⟨us, hv⟩
  obtain ⟨ho, hul, hst⟩ := hv
  obtain ⟨av, cv, hve⟩ := gl_of ho
  subst hve
  have HS := Lib.hid hs
  have HT := Lib.hid hst
  have HF := Lib.hid hF
  have HL := Lib.hid hl
  have HU := Lib.hid hul
  have hn : l.length ≤ 900000 := hl.1
  clear hs hst hF hl hul
  go_enter Tryz.func39, Tryz.ntmps39
  go_wp2_with fail
  go_loopw [4] (fun q wr => ∃ k : Nat, q = .int .i64 (k : Int) ∧ k ≤ l.length ∧ BkI B (fun b => F b ∨ ∃ j x, j < k ∧ us[j]? = some x ∧ x.ownBlock = some b) wr p ∧ Kd B w wr) (fun q _ => l.length - (RowKit.intOf q).toNat)
  case atStart => exact ⟨0, rfl, by omega, h.mono (fun k hk => .inl hk), Kd.refl _ _⟩
  case round =>
    obtain ⟨k, rfl, hk, hbk, hkd⟩ := hrel
    clear h
    have ho1 := hkd.own ho (by decide)
    have hBr : B ≤ wr.heap.size := Nat.le_trans hB hkd.size
    by_cases hkn : k < l.length
    · obtain ⟨r, hrk⟩ : ∃ r, l[k]? = some r := ⟨l[k], List.getElem?_eq_getElem hkn⟩
      obtain ⟨x, hxk⟩ : ∃ x, us[k]? = some x := ⟨us[k]'(by rw [HU.out]; exact hkn), List.getElem?_eq_getElem _⟩
      have hox := HT.out k r x hrk hxk
      have hrl := HL.out.2 r (List.mem_of_getElem? hrk)
      rcases id ho1.2 with ⟨_, h0⟩ | ⟨ga, ca, cur, hae, _⟩
      · omega
      cases hae
      have hca := own_cell ho1 (flatA_get l us k r x hrk hxk).2
      have hox1 := hkd.own hox (by decide)
      have kc := Texts_bk B p M _ x r.2 wr hbk hox1 hBM hrl hBr (fun b hb hf => by
        rcases hf with hf | ⟨j, y, hj, hy, hyb⟩
        · exact HF.out b (.inr ⟨x, List.mem_of_getElem? hxk, hb⟩) hf
        · exact HS.out k j x y b (by omega) hxk hy hb hyb)
      obtain ⟨ax, cx, hxe⟩ := gl_of hox
      have HXK := Lib.hid hxk
      subst hxe
      obtain ⟨hca1, _⟩ := hca
      have i1 : (k : Int) < (l.length : Int) := by omega
      have i3 : decide ((k : Int) < (l.length : Int)) = true := decide_eq_true i1
      clear hrk hox hox1 hbk ho1 hxk
      go_wp2_with (go_at_call 156; refine Calls.mono (show Calls _ _ _ _ _ from kc) ?_; rintro e w4 ⟨rfl, hb4, hk4⟩)
      have hb5 : BkI B (fun b => F b ∨ ∃ j x, j < k + 1 ∧ us[j]? = some x ∧ x.ownBlock = some b) w4 p := hb4.mono (fun b hb => by
        rcases hb with (hb | ⟨j, y, hj, hy, hyb⟩) | hb
        · exact .inl hb
        · exact .inr ⟨j, y, by omega, hy, hyb⟩
        · exact .inr ⟨k, _, by omega, HXK.out, hb⟩)
      clear hb4 kc hca1
      go_wp2_with fail
      go_roundw
      case rel => exact ⟨k + 1, by go_num, by omega, hb5, hkd.trans hk4⟩
      case measure => simp [RowKit.intOf]; omega
    · obtain rfl : k = l.length := by omega
      have i3 : decide (((l.length : Nat) : Int) < (l.length : Int)) = false := decide_eq_false (by omega)
      have kc := Attrs_bk B p M _ (.slice av l.length cv) l wr hbk (hX.kept hkd.same) hBM HL.out hBr (fun b hb hf => by
        rcases hf with hf | ⟨j, y, hj, hy, hyb⟩
        · exact HF.out b (.inl hb) hf
        · have h2 := HT.out j l[j] y (List.getElem?_eq_getElem hj) hy
          exact absurd ((own_ty ho hb).eq (own_ty h2 hyb)) (by decide))
      clear hbk hX ho1
      go_wp2_with (go_at_call 157; refine Calls.mono (show Calls _ _ _ _ _ from kc) ?_; rintro e w4 ⟨rfl, hb4, hk4⟩)
      have hb5 : BkI B (fun b => F b ∨ (Value.slice av l.length cv).ownBlock = some b ∨ ∃ u ∈ us, u.ownBlock = some b) w4 p := hb4.mono (fun b hb => by
        rcases hb with (hb | ⟨j, y, hj, hy, hyb⟩) | hb
        · exact .inl hb
        · exact .inr (.inr ⟨y, List.mem_of_getElem? hy, hyb⟩)
        · exact .inr (.inl hb))
      first | go_end0 | refine bodyPost_ret (v := .tuple #[]) (by simp [results, Tryz.results39, go_sem]) rfl ?_
      exact ⟨rfl, hb5, hkd.trans hk4⟩
theorem Mod_bk (B p M : Nat) (F : Nat → Prop) (v : Value) (us : List Value) (l : List Md) (w : World) (h : BkI B F w p) (hv : OwnM M w v l us) (hs : Sep us) (hBM : B ≤ M) (hF : ∀ k, (v.ownBlock = some k ∨ ∃ u ∈ us, u.ownBlock = some k) → ¬ F k) (hl : OkM l) (hB : B ≤ w.heap.size) :
    Calls Tryz.prog 40 #[.pointer (some ⟨p, 0, none⟩), v] w fun e w' => e = .returned (.tuple #[]) ∧ BkI B (fun k => F k ∨ v.ownBlock = some k ∨ ∃ u ∈ us, u.ownBlock = some k) w' p ∧ Kd B w w' := by
  have hX : MO M w v l := ⟨us, hv⟩
  obtain ⟨ho, hul, hst⟩ := hv
  obtain ⟨av, cv, hve⟩ := gl_of ho
  subst hve
  have HS := Lib.hid hs
  have HT := Lib.hid hst
  have HF := Lib.hid hF
  have HL := Lib.hid hl
  have HU := Lib.hid hul
  have hn : l.length ≤ 900000 := hl.1
  clear hs hst hF hl hul
  go_enter Tryz.func40, Tryz.ntmps40
  go_wp2_with fail
  go_loopw [4] (fun q wr => ∃ k : Nat, q = .int .i64 (k : Int) ∧ k ≤ l.length ∧ BkI B (fun b => F b ∨ ∃ j x, j < k ∧ us[j]? = some x ∧ x.ownBlock = some b) wr p ∧ Kd B w wr) (fun q _ => l.length - (RowKit.intOf q).toNat)
  case atStart => exact ⟨0, rfl, by omega, h.mono (fun k hk => .inl hk), Kd.refl _ _⟩
  case round =>
    obtain ⟨k, rfl, hk, hbk, hkd⟩ := hrel
    clear h
    have ho1 := hkd.own ho (by decide)
    have hBr : B ≤ wr.heap.size := Nat.le_trans hB hkd.size
    by_cases hkn : k < l.length
    · obtain ⟨r, hrk⟩ : ∃ r, l[k]? = some r := ⟨l[k], List.getElem?_eq_getElem hkn⟩
      obtain ⟨x, hxk⟩ : ∃ x, us[k]? = some x := ⟨us[k]'(by rw [HU.out]; exact hkn), List.getElem?_eq_getElem _⟩
      have hox := HT.out k r x hrk hxk
      have hrl := HL.out.2 r (List.mem_of_getElem? hrk)
      rcases id ho1.2 with ⟨_, h0⟩ | ⟨ga, ca, cur, hae, _⟩
      · omega
      cases hae
      have hca := own_cell ho1 (flatM_get l us k r x hrk hxk).2.2
      have hox1 := hkd.own hox (by decide)
      have kc := Texts_bk B p M _ x r.2.2 wr hbk hox1 hBM hrl hBr (fun b hb hf => by
        rcases hf with hf | ⟨j, y, hj, hy, hyb⟩
        · exact HF.out b (.inr ⟨x, List.mem_of_getElem? hxk, hb⟩) hf
        · exact HS.out k j x y b (by omega) hxk hy hb hyb)
      obtain ⟨ax, cx, hxe⟩ := gl_of hox
      have HXK := Lib.hid hxk
      subst hxe
      obtain ⟨hca1, _⟩ := hca
      have i1 : (k : Int) < (l.length : Int) := by omega
      have i3 : decide ((k : Int) < (l.length : Int)) = true := decide_eq_true i1
      clear hrk hox hox1 hbk ho1 hxk
      go_wp2_with (go_at_call 156; refine Calls.mono (show Calls _ _ _ _ _ from kc) ?_; rintro e w4 ⟨rfl, hb4, hk4⟩)
      have hb5 : BkI B (fun b => F b ∨ ∃ j x, j < k + 1 ∧ us[j]? = some x ∧ x.ownBlock = some b) w4 p := hb4.mono (fun b hb => by
        rcases hb with (hb | ⟨j, y, hj, hy, hyb⟩) | hb
        · exact .inl hb
        · exact .inr ⟨j, y, by omega, hy, hyb⟩
        · exact .inr ⟨k, _, by omega, HXK.out, hb⟩)
      clear hb4 kc hca1
      go_wp2_with fail
      go_roundw
      case rel => exact ⟨k + 1, by go_num, by omega, hb5, hkd.trans hk4⟩
      case measure => simp [RowKit.intOf]; omega
    · obtain rfl : k = l.length := by omega
      have i3 : decide (((l.length : Nat) : Int) < (l.length : Int)) = false := decide_eq_false (by omega)
      have kc := Mods_bk B p M _ (.slice av l.length cv) l wr hbk (hX.kept hkd.same) hBM HL.out hBr (fun b hb hf => by
        rcases hf with hf | ⟨j, y, hj, hy, hyb⟩
        · exact HF.out b (.inl hb) hf
        · have h2 := HT.out j l[j] y (List.getElem?_eq_getElem hj) hy
          exact absurd ((own_ty ho hb).eq (own_ty h2 hyb)) (by decide))
      clear hbk hX ho1
      go_wp2_with (go_at_call 158; refine Calls.mono (show Calls _ _ _ _ _ from kc) ?_; rintro e w4 ⟨rfl, hb4, hk4⟩)
      have hb5 : BkI B (fun b => F b ∨ (Value.slice av l.length cv).ownBlock = some b ∨ ∃ u ∈ us, u.ownBlock = some b) w4 p := hb4.mono (fun b hb => by
        rcases hb with (hb | ⟨j, y, hj, hy, hyb⟩) | hb
        · exact .inl hb
        · exact .inr (.inr ⟨y, List.mem_of_getElem? hy, hyb⟩)
        · exact .inr (.inl hb))
      first | go_end0 | refine bodyPost_ret (v := .tuple #[]) (by simp [results, Tryz.results40, go_sem]) rfl ?_
      exact ⟨rfl, hb5, hkd.trans hk4⟩
theorem mono_to {h : Nat → Nat} {n : Nat} (hm : ∀ j, j < n → h j ≤ h (j + 1)) : ∀ j, j ≤ n → h 0 ≤ h j
  | 0, _ => Nat.le_refl _
  | j + 1, hj => Nat.le_trans (mono_to hm j (by omega)) (hm j (by omega))
theorem mono_all {h : Nat → Nat} {n : Nat} (hm : ∀ j, j < n → h j ≤ h (j + 1)) : ∀ d j, j + d ≤ n → h j ≤ h (j + d)
  | 0, _, _ => Nat.le_refl _
  | d + 1, j, hj => Nat.le_trans (mono_all hm d j (by omega)) (hm (j + d) (by omega))
theorem nil_row {w : World} {B e size n : Nat} {v : Value} {xs : List Value} (h : w.ownsRow B e size v n xs) (hv : v = .slice none 0 0) : n = 0 := by
  rcases h.2 with ⟨_, h0⟩ | ⟨g, c, _, h1, _⟩
  · exact h0
  · rw [hv] at h1; cases h1
theorem ChgsO.co {N : Nat} {w : World} {v : Value} {cs : List Chg} {us : List (Value × Value)} {h : Nat → Nat} (hc : ChgsO N w v cs us h) : CO N w v cs := by
  obtain ⟨h1, h2, h3, h4, h5, h6⟩ := hc
  refine ⟨us, h1, h2, fun j c q hj hq => ?_⟩
  have hjl : j < cs.length := (List.getElem?_eq_some_iff.1 hj).1
  have hlo : N ≤ h j := Nat.le_trans h3 (mono_to h4 j (by omega))
  obtain ⟨⟨us, a1, a2, a3, _⟩, ⟨vs, m1, m2, m3, _⟩, _⟩ := h6 j c q hj hq
  exact ⟨AO.mono ⟨us, a1, a2, a3⟩ hlo, MO.mono ⟨vs, m1, m2, m3⟩ hlo⟩
theorem Change_bk (B p M : Nat) (F : Nat → Prop) (v : Value) (us : List (Value × Value)) (hh : Nat → Nat) (l : List Chg) (w : World) (h : BkI B F w p) (hv : ChgsO M w v l us hh) (hBM : B ≤ M)
    (hF : ∀ k, M ≤ k → k < hh l.length → ¬ Ty w k 47 → ¬ F k) (hFv : ∀ k, v.ownBlock = some k → ¬ F k) (hl : OkC l) (hB : B ≤ w.heap.size) :
    Calls Tryz.prog 13 #[.pointer (some ⟨p, 0, none⟩), v] w fun e w' => e = .returned (.tuple #[]) ∧ BkI B (fun k => F k ∨ (M ≤ k ∧ k < hh l.length ∧ ¬ Ty w k 47) ∨ v.ownBlock = some k) w' p ∧ Kd B w w' := by
  have hX : CO M w v l := hv.co
  obtain ⟨ho, hul, hM0, hmo, hHs, hrec⟩ := hv
  obtain ⟨av, cv, hve⟩ := gl_of ho
  subst hve
  have HR := Lib.hid hrec
  have HF := Lib.hid hF
  have HFV := Lib.hid hFv
  have HL := Lib.hid hl
  have HU := Lib.hid hul
  have HM := Lib.hid hmo
  have hn : l.length ≤ 900000 := hl.1
  clear hrec hF hFv hl hul hmo
  go_enter Tryz.func13, Tryz.ntmps13
  go_wp2_with fail
  go_loopw [4] (fun q wr => ∃ k : Nat, q = .int .i64 (k : Int) ∧ k ≤ l.length ∧ BkI B (fun b => F b ∨ M ≤ b ∧ b < hh k ∧ ¬ Ty w b 47) wr p ∧ Kd B w wr) (fun q _ => l.length - (RowKit.intOf q).toNat)
  case atStart => exact ⟨0, rfl, by omega, h.mono (fun k hk => .inl hk), Kd.refl _ _⟩
  case round =>
    obtain ⟨k, rfl, hk, hbk, hkd⟩ := hrel
    clear h
    have ho1 := hkd.own ho (by decide)
    have hBr : B ≤ wr.heap.size := Nat.le_trans hB hkd.size
    by_cases hkn : k < l.length
    · obtain ⟨c, hck⟩ : ∃ c, l[k]? = some c := ⟨l[k], List.getElem?_eq_getElem hkn⟩
      obtain ⟨q, hqk⟩ : ∃ q, us[k]? = some q := ⟨us[k]'(by rw [HU.out]; exact hkn), List.getElem?_eq_getElem _⟩
      obtain ⟨vA, vM⟩ := q
      have hrk := HR.out k c (vA, vM) hck hqk
      simp only at hrk
      have hokc := HL.out.2 c (List.mem_of_getElem? hck)
      rcases id ho1.2 with ⟨_, h0⟩ | ⟨ga, ca, cur, hae, _⟩
      · omega
      cases hae
      have hca4 := own_cell ho1 ((flatC_get l us k c (vA, vM) 4 hck hqk (by decide)).trans rfl)
      have hca5 := own_cell ho1 ((flatC_get l us k c (vA, vM) 5 hck hqk (by decide)).trans rfl)
      have hlo : M ≤ hh k := Nat.le_trans hM0 (mono_to HM.out k (by omega))
      have hstep : hh k ≤ hh (k + 1) := HM.out k hkn
      have hend : hh (k + 1) ≤ hh l.length := by
        have := mono_all HM.out (l.length - (k + 1)) (k + 1) (by omega)
        rwa [show k + 1 + (l.length - (k + 1)) = l.length by omega] at this
      have hrkw := hrk.kept (w' := wr) (fun k t ht hr => hkd.same k t ht (by rcases hr with rfl | rfl | rfl <;> decide))
      obtain ⟨⟨usA, a1, a2, a3, a4, a5, a6⟩, ⟨usM, m1, m2, m3, m4, m5, m6⟩, hnn⟩ := hrk
      obtain ⟨⟨_, b1, b2, b3, b4, _⟩, _⟩ := id hrkw
      -- blocks
      have HA : ∀ b, (vA.ownBlock = some b ∨ ∃ u ∈ usA, u.ownBlock = some b) → hh k ≤ b ∧ b < hh (k + 1) ∧ ¬ Ty w b 47 := by
        rintro b (hb | ⟨u, hu, hb⟩)
        · exact ⟨(a1.lt b hb).1, a5 b hb, fun ht => absurd (ht.eq (own_ty a1 hb)) (by decide)⟩
        · obtain ⟨i, hi⟩ := List.getElem?_of_mem hu
          have hil := (List.getElem?_eq_some_iff.1 hi).1
          have hoi := a3 i c.attrs[i] u (List.getElem?_eq_getElem (by omega)) hi
          exact ⟨(hoi.lt b hb).1, a6 u hu b hb, fun ht => absurd (ht.eq (own_ty hoi hb)) (by decide)⟩
      have HB : ∀ b, (vM.ownBlock = some b ∨ ∃ u ∈ usM, u.ownBlock = some b) → hh k ≤ b ∧ b < hh (k + 1) ∧ ¬ Ty w b 47 := by
        rintro b (hb | ⟨u, hu, hb⟩)
        · exact ⟨(m1.lt b hb).1, m5 b hb, fun ht => absurd (ht.eq (own_ty m1 hb)) (by decide)⟩
        · obtain ⟨i, hi⟩ := List.getElem?_of_mem hu
          have hil := (List.getElem?_eq_some_iff.1 hi).1
          have hoi := m3 i c.mods[i] u (List.getElem?_eq_getElem (by omega)) hi
          exact ⟨(hoi.lt b hb).1, m6 u hu b hb, fun ht => absurd (ht.eq (own_ty hoi hb)) (by decide)⟩
      have hone : (∀ b, ¬ (vA.ownBlock = some b ∨ ∃ u ∈ usA, u.ownBlock = some b)) ∨ ∀ b, ¬ (vM.ownBlock = some b ∨ ∃ u ∈ usM, u.ownBlock = some b) := by
        rcases hnn with hz | hz
        · left
          have h0 := nil_row a1 hz
          have hu0 : usA = [] := List.eq_nil_of_length_eq_zero (by omega)
          rintro b (hb | ⟨u, hu, hb⟩)
          · rw [hz] at hb; cases hb
          · rw [hu0] at hu; cases hu
        · right
          have h0 := nil_row m1 hz
          have hu0 : usM = [] := List.eq_nil_of_length_eq_zero (by omega)
          rintro b (hb | ⟨u, hu, hb⟩)
          · rw [hz] at hb; cases hb
          · rw [hu0] at hu; cases hu
      have hsame := hkd.same
      have kA := Attr_bk B p (hh k) _ vA usA c.attrs wr hbk ⟨own_ty_kept a1 (fun b ht => hsame b _ ht (by decide)), a2, fun j x u e1 e2 => own_ty_kept (a3 j x u e1 e2) (fun b ht => hsame b _ ht (by decide))⟩ a4.sep (by omega) (fun b hb hf => by
        obtain ⟨g1, g2, g3⟩ := HA b hb
        rcases hf with hf | ⟨_, hf, _⟩
        · exact HF.out b (by omega) (by omega) g3 hf
        · omega) hokc.1 hBr
      have kM := fun w4 (hb4 : BkI B (fun b => (F b ∨ M ≤ b ∧ b < hh k ∧ ¬ Ty w b 47) ∨ vA.ownBlock = some b ∨ ∃ u ∈ usA, u.ownBlock = some b) w4 p) (hk4 : Kd B w w4) => Mod_bk B p (hh k) _ vM usM c.mods w4 hb4 ⟨own_ty_kept m1 (fun b ht => hk4.same b _ ht (by decide)), m2, fun j x u e1 e2 => own_ty_kept (m3 j x u e1 e2) (fun b ht => hk4.same b _ ht (by decide))⟩ m4.sep (by omega) (fun b hb hf => by
        obtain ⟨g1, g2, g3⟩ := HB b hb
        rcases hf with (hf | ⟨_, hf, _⟩) | hf
        · exact HF.out b (by omega) (by omega) g3 hf
        · omega
        · rcases hone with h' | h'
          · exact h' b hf
          · exact h' b hb) hokc.2 (Nat.le_trans hB hk4.size)
      have KM := Lib.hid kM
      obtain ⟨aA, cA, hvA⟩ := gl_of a1
      obtain ⟨aM, cM, hvM⟩ := gl_of m1
      have HAH := Lib.hid HA
      have HBH := Lib.hid HB
      clear HA HB hone kM hrkw a3 a4 a5 a6 m3 m4 m5 m6 b1 b2 b3 b4 hnn
      subst hvA hvM
      obtain ⟨hc4, _⟩ := hca4
      obtain ⟨hc5, _⟩ := hca5
      have i1 : (k : Int) < (l.length : Int) := by omega
      have i3 : decide ((k : Int) < (l.length : Int)) = true := decide_eq_true i1
      have C5 := Lib.hid (fun (w' : World) (hk : Kd B w w') => (own_cell (hk.own ho (by decide)) ((flatC_get l us k c (.slice aA c.attrs.length cA, .slice aM c.mods.length cM) 5 hck hqk (by decide)).trans rfl)).1)
      clear ho1 hck hqk hokc hbk hsame
      go_wp2_with (first | (go_at_call 39; refine Calls.mono (show Calls _ _ _ _ _ from kA) ?_; rintro e w4 ⟨rfl, hb4, hk4⟩; have hkd4 := hkd.trans hk4; have kM2 := KM.out w4 hb4 hkd4; have hc5' := C5.out w4 hkd4) | (go_at_call 40; refine Calls.mono (show Calls _ _ _ _ _ from kM2) ?_; rintro e w5 ⟨rfl, hb5, hk5⟩))
      have hb6 : BkI B (fun b => F b ∨ M ≤ b ∧ b < hh (k + 1) ∧ ¬ Ty w b 47) w5 p := hb5.mono (fun b hb => by
        rcases hb with ((hb | ⟨e1, e2, e3⟩) | hb) | hb
        · exact .inl hb
        · exact .inr ⟨e1, by omega, e3⟩
        · obtain ⟨g1, g2, g3⟩ := HAH.out b hb
          exact .inr ⟨by omega, g2, g3⟩
        · obtain ⟨g1, g2, g3⟩ := HBH.out b hb
          exact .inr ⟨by omega, g2, g3⟩)
      clear hb5 hb4 kM2 kA hc5' hc4 hc5
      go_wp2_with fail
      go_roundw
      case rel => exact ⟨k + 1, by go_num, by omega, hb6, hkd4.trans hk5⟩
      case measure => simp [RowKit.intOf]; omega
    · obtain rfl : k = l.length := by omega
      have i3 : decide (((l.length : Nat) : Int) < (l.length : Int)) = false := decide_eq_false (by omega)
      have kc := Changes_bk B p M _ (.slice av l.length cv) l wr hbk (hX.kept hkd.same) hBM HL.out hBr (fun b hb hf => by
        rcases hf with hf | ⟨_, _, hf⟩
        · exact HFV.out b hb hf
        · exact hf (own_ty ho hb))
      clear hbk hX ho1
      go_wp2_with (go_at_call 41; refine Calls.mono (show Calls _ _ _ _ _ from kc) ?_; rintro e w4 ⟨rfl, hb4, hk4⟩)
      have hb5 : BkI B (fun b => F b ∨ (M ≤ b ∧ b < hh l.length ∧ ¬ Ty w b 47) ∨ (Value.slice av l.length cv).ownBlock = some b) w4 p := hb4.mono (fun b hb => by
        rcases hb with (hb | hb) | hb
        · exact .inl hb
        · exact .inr (.inl hb)
        · exact .inr (.inr hb))
      first | go_end0 | refine bodyPost_ret (v := .tuple #[]) (by simp [results, Tryz.results13, go_sem]) rfl ?_
      exact ⟨rfl, hb5, hkd.trans hk4⟩
end Go.Proofs.YtegigcneimjimaaGreatDoor
