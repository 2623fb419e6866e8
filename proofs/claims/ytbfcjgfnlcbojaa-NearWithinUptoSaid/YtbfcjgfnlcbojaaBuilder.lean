/-
  Walks of the methods of strings.Builder. No conditions but those that each theorem names.
-/
import Derived.Test.YtbfcjgfnlcbojaaChecked
import Derived.Test.YtbfcjgfnlcbojaaCore
set_option maxRecDepth 20000
set_option linter.unusedVariables false
namespace Go.Hb.Builder
open Go.Proofs
theorem ag29 : aggN Try.prog 29 = some none := by kernel_rfl
theorem ag119 : aggN Try.prog 119 = some none := by kernel_rfl
theorem by29_9 : byteOk Try.prog 29 5 9 = true := by kernel_rfl
theorem c61 : Callable Try.prog 61 := callable Try.func61 (by kernel_rfl) (by kernel_rfl)
theorem cx63 : ∀ v w, (callFunc 63 #[v]).run Try.prog w = .ok (.value v) w := fun v w => by kernel_rfl
theorem cz29 : cellsN Try.prog 29 = some 1 := by kernel_rfl
theorem cz119 : cellsN Try.prog 119 = some 1 := by kernel_rfl
theorem fo121_0 : fieldOff Try.prog 121 0 = some 0 := by kernel_rfl
theorem fo121_1 : fieldOff Try.prog 121 1 = some 1 := by kernel_rfl
theorem inf121 : (Try.prog.info? 121).isSome = true := by kernel_rfl
theorem pt140 : ptrTo Try.prog 140 5 = true := by kernel_rfl
theorem so29 : sliceOk Try.prog 29 5 1 1 = true := by kernel_rfl
theorem u9 : Try.prog.underlying 9 = some (.string) := by kernel_rfl
theorem u29 : Try.prog.underlying 29 = some (.slice 5) := by kernel_rfl
theorem u119 : Try.prog.underlying 119 = some (.pointer 121) := by kernel_rfl
theorem un119_141 : unsOk Try.prog 119 141 121 2 = true := by kernel_rfl
theorem wide : Try.prog.follows .mixedOrders = true := by kernel_rfl
theorem copyCheck_w (b : Nat) (pa : Option Addr) (buf : Value) (w : World) (hb : w.heap[b]? = some (.cells [Value.pointer pa, buf].toArray 121 (0, 0))) (hp : pa = none ∨ pa = some ⟨b, 0, none⟩) :
    Ret Try.prog 61 (List.toArray [.pointer (some ⟨b, 0, none⟩)]) w (fun v w' => v = .tuple #[] ∧ w'.heap[b]? = some (.cells [Value.pointer (some ⟨b, 0, none⟩), buf].toArray 121 (0, 0)) ∧ Md (fun k => k = b) w w') := by
  refine enter Try.func61 rfl Try.ntmps61 rfl ?_
  refine sq (fun K1 hK1 => ?_)
  refine rg ?_
  refine p (mvt (.pointer (some ⟨b, 0, none⟩)) rfl) ?_
  refine p (nc rfl) ?_
  refine p (fa fo121_0 rfl) ?_
  refine p (ld ag119 rfl ((cel_of hb).trans rfl)) ?_
  refine p (eqpn u119 rfl rfl) ?_
  refine nl ?_
  refine tn (hK1 _ _ ?_)
  refine cb rfl (fun hc6 => ?_) (fun hc6 => ?_)
  · obtain rfl : pa = none := by simpa using hc6
    refine rg ?_
    refine p (mvt (.pointer (some ⟨b, 0, none⟩)) rfl) ?_
    refine p (mvt (.pointer (some ⟨b, 0, none⟩)) rfl) ?_
    refine p (toU un119_141 rfl hb rfl) ?_
    refine p (clx cx63 rfl) ?_
    refine p (fromU un119_141 rfl hb rfl) ?_
    refine p (nc rfl) ?_
    refine p (fa fo121_0 rfl) ?_
    refine e (stT cz119 rfl rfl rfl hb (by simp) fun w1 hM hB => ?_)
    refine nl ?_
    refine f0 rfl ?_
    exact ⟨rfl, hB, hM⟩
  · obtain rfl : pa = some ⟨b, 0, none⟩ := hp.resolve_left (by rintro rfl; simp at hc6)
    refine sq (fun K2 hK2 => ?_)
    refine rg ?_
    refine p (mvt (.pointer (some ⟨b, 0, none⟩)) rfl) ?_
    refine p (nc rfl) ?_
    refine p (fa fo121_0 rfl) ?_
    refine p (ld ag119 rfl ((cel_of hb).trans rfl)) ?_
    refine p (mvt (.pointer (some ⟨b, 0, none⟩)) rfl) ?_
    refine p (nepp u119 inf121 rfl rfl) ?_
    refine nl ?_
    refine tn (hK2 _ _ ?_)
    refine cf rfl ?_
    refine skp ?_
    refine f0 rfl ?_
    exact ⟨rfl, hb, Md.refl _ _⟩
theorem writeByte_w (b : Nat) (buf : Value) (l : List UInt8) (c : UInt8) (w : World) (hb : Bd 121 5 w b buf l) (hl : l.length ≤ 70368744177664) :
    Ret Try.prog 53 (List.toArray [.pointer (some ⟨b, 0, none⟩), .int .u8 c.toNat]) w (fun v w' => v = .nilIface ∧ ∃ buf', Bd 121 5 w' b buf' (l ++ [c]) ∧ Md (BF b buf) w w' ∧ ∀ k, BF b buf' k → BF b buf k ∨ w.heap.size ≤ k) := by
  obtain ⟨⟨pa, hbl, hpa⟩, hown, hnil⟩ := hb
  have hlt : b < w.heap.size := (Array.getElem?_eq_some_iff.1 hbl).1
  have hobs : ∀ k, buf.ownBlock = some k → k ≠ b ∧ k < w.heap.size := fun k hk => by have := hown.lt k hk; exact ⟨by omega, this.2⟩
  refine enter Try.func53 rfl Try.ntmps53 rfl ?_
  refine sq (fun K1 hK1 => ?_)
  refine rg ?_
  refine p asg ?_
  refine nl ?_
  refine tn (hK1 _ _ ?_)
  refine sq (fun K2 hK2 => ?_)
  refine rg ?_
  refine p (mvt (.pointer (some ⟨b, 0, none⟩)) rfl) ?_
  refine e (cl c61 (copyCheck_w b pa buf w hbl hpa) rfl fun v6 w6 hR6 => ?_)
  obtain ⟨_, hb1, hM1⟩ := hR6
  have ho1 := own_md hown hM1 (fun k hk => (hobs k hk).1)
  have hs1 := hM1.size
  refine nl ?_
  refine tn (hK2 _ _ ?_)
  refine sq (fun K3 hK3 => ?_)
  refine rg ?_
  refine p (mvt (.pointer (some ⟨b, 0, none⟩)) rfl) ?_
  refine p (mvt (.pointer (some ⟨b, 0, none⟩)) rfl) ?_
  refine p (nc rfl) ?_
  refine p (fa fo121_1 rfl) ?_
  refine p (ld ag29 rfl ((cel_of hb1).trans rfl)) ?_
  refine p (mvt (.int .u8 c.toNat) rfl) ?_
  refine e (bs1 so29 rfl rfl fun b13 w13 hb13 hN13 hB13 => ?_)
  refine e (ap so29 (own_nw ho1 hN13.md) rfl (by have := hN13.size; omega) rfl (Cells.of_blk hB13) (rfl) (rfl) (by omega) (by omega) fun v14 w14 ho14 hM14 hz14 hf14 => ?_)
  have hb14 := hM14.blk (Wk.blk hN13.md hb1) (fun h => (hobs b h).1 rfl)
  refine p (nc rfl) ?_
  refine p (fa fo121_1 rfl) ?_
  refine e (stT cz29 rfl rfl (by obtain ⟨a, c, h, _⟩ := own_cells ho14; exact congrArg Value.oneCell' h) hb14 (by simp) fun w3 hM3 hB3 => ?_)
  refine nl ?_
  refine tn (hK3 _ _ ?_)
  refine sq (fun K4 hK4 => ?_)
  refine rg ?_
  refine p asg ?_
  refine nl ?_
  refine tn (hK4 _ _ ?_)
  refine rt ?_
  refine f1 rfl rfl ?_
  have h34 : ∀ k, v14.ownBlock = some k → k ≠ b := fun k hk => by have := ho14.lt k hk; omega
  refine ⟨rfl, v14, ⟨⟨_, hB3, .inr rfl⟩, ?_, ?_⟩, ?_, ?_⟩
  · rw [List.length_append, U8_app]; exact own_md ho14 hM3 (fun k hk => h34 k hk)
  · rw [hz14]; simp
  · refine Md.trans' (Md.trans' (Md.trans' (hM1.mono (fun k _ h => .inl h)) hN13.md (fun _ _ h => h.elim)) hM14 (fun k _ h => .inr h)) hM3 (fun k _ h => .inl h)
  · rintro k (rfl | hk)
    · exact .inl (.inl rfl)
    · by_cases h : buf.ownBlock = some k
      · exact .inl (.inr h)
      · have := hf14 k hk; have h1 := hM1.size; have h2 := hN13.md.size; exact .inr (by rcases this with h3 | h3; exact absurd h3 h; omega)
theorem writeString_w (b : Nat) (buf : Value) (l m : List UInt8) (w : World) (hb : Bd 121 5 w b buf l) (hl : l.length + m.length ≤ 70368744177664) :
    Ret Try.prog 54 (List.toArray [.pointer (some ⟨b, 0, none⟩), str m]) w (fun v w' => v = .tuple #[.int .i64 m.length, .nilIface] ∧ ∃ buf', Bd 121 5 w' b buf' (l ++ m) ∧ Md (BF b buf) w w' ∧ ∀ k, BF b buf' k → BF b buf k ∨ w.heap.size ≤ k) := by
  obtain ⟨⟨pa, hbl, hpa⟩, hown, hnil⟩ := hb
  have hlt : b < w.heap.size := (Array.getElem?_eq_some_iff.1 hbl).1
  have hobs : ∀ k, buf.ownBlock = some k → k ≠ b ∧ k < w.heap.size := fun k hk => by have := hown.lt k hk; exact ⟨by omega, this.2⟩
  refine enter Try.func54 rfl Try.ntmps54 rfl ?_
  refine sq (fun K1 hK1 => ?_)
  refine rg ?_
  refine p asg ?_
  refine p asg ?_
  refine nl ?_
  refine tn (hK1 _ _ ?_)
  refine sq (fun K2 hK2 => ?_)
  refine rg ?_
  refine p (mvt (.pointer (some ⟨b, 0, none⟩)) rfl) ?_
  refine e (cl c61 (copyCheck_w b pa buf w hbl hpa) rfl fun v7 w7 hR7 => ?_)
  obtain ⟨_, hb1, hM1⟩ := hR7
  have ho1 := own_md hown hM1 (fun k hk => (hobs k hk).1)
  have hs1 := hM1.size
  refine nl ?_
  refine tn (hK2 _ _ ?_)
  refine sq (fun K3 hK3 => ?_)
  refine rg ?_
  refine p (mvt (.pointer (some ⟨b, 0, none⟩)) rfl) ?_
  refine p (mvt (.pointer (some ⟨b, 0, none⟩)) rfl) ?_
  refine p (nc rfl) ?_
  refine p (fa fo121_1 rfl) ?_
  refine p (ld ag29 rfl ((cel_of hb1).trans rfl)) ?_
  refine p (mvt (str m) rfl) ?_
  refine e (apS by29_9 (ho1) rfl (by omega) rfl (by omega) fun v14 w14 ho14 hM14 hz14 hf14 => ?_)
  have hb14 := hM14.blk hb1 (fun h => (hobs b h).1 rfl)
  refine p (nc rfl) ?_
  refine p (fa fo121_1 rfl) ?_
  refine e (stT cz29 rfl rfl (by obtain ⟨a, c, h, _⟩ := own_cells ho14; exact congrArg Value.oneCell' h) hb14 (by simp) fun w3 hM3 hB3 => ?_)
  refine nl ?_
  refine tn (hK3 _ _ ?_)
  refine sq (fun K4 hK4 => ?_)
  refine rg ?_
  refine p (mvt (str m) rfl) ?_
  refine p (lns u9 rfl rfl) ?_
  refine p asg ?_
  refine p asg ?_
  refine nl ?_
  refine tn (hK4 _ _ ?_)
  refine rt ?_
  refine f2 rfl rfl rfl ?_
  have h34 : ∀ k, v14.ownBlock = some k → k ≠ b := fun k hk => by have := ho14.lt k hk; omega
  refine ⟨rfl, v14, ⟨⟨_, hB3, .inr rfl⟩, ?_, ?_⟩, ?_, ?_⟩
  · rw [List.length_append, U8_app]; exact own_md ho14 hM3 (fun k hk => h34 k hk)
  · rw [hz14, hnil]; simp
  · exact Md.trans' (Md.trans' (hM1.mono (fun k _ h => .inl h)) hM14 (fun k _ h => .inr h)) hM3 (fun k _ h => .inl h)
  · rintro k (rfl | hk)
    · exact .inl (.inl rfl)
    · by_cases h : buf.ownBlock = some k
      · exact .inl (.inr h)
      · have := hf14 k hk; have h1 := hM1.size; exact .inr (by rcases this with h3 | h3; exact absurd h3 h; omega)
theorem string_w (b : Nat) (buf : Value) (l : List UInt8) (w : World) (hb : Bd 121 5 w b buf l) (hl : l.length ≤ 70368744177664) :
    Ret Try.prog 56 (List.toArray [.pointer (some ⟨b, 0, none⟩)]) w (fun v w' => v = str l ∧ Md (fun k => buf.ownBlock = some k) w w') := by
  obtain ⟨⟨pa, hbl, hpa⟩, hown, hnil⟩ := hb
  obtain ⟨a, c, rfl, hcs, hle, hk, hk0⟩ := own_cells hown
  refine enter Try.func56 rfl Try.ntmps56 rfl ?_
  refine sq (fun K1 hK1 => ?_)
  refine rg ?_
  refine p asg ?_
  refine nl ?_
  refine tn (hK1 _ _ ?_)
  refine sq (fun K2 hK2 => ?_)
  have hS1 : (fun w' => Md (fun k => (Value.slice a l.length c).ownBlock = some k) w w') w.drew := (Md.refl _ _).drew
  refine hst (fun w' => Md (fun k => (Value.slice a l.length c).ownBlock = some k) w w') wide hS1 ?_
  refine hp 0 rfl (by kernel_rfl) (fun _ _ => mvt (.pointer (some ⟨b, 0, none⟩)) rfl) hS1 ?_
  refine hp 1 rfl (by kernel_rfl) (fun _ _ => nc rfl) hS1 ?_
  refine hp 2 rfl (by kernel_rfl) (fun _ _ => fa fo121_1 rfl) hS1 ?_
  refine hp 3 rfl (by kernel_rfl) (fun w' hS => ld ag29 rfl (hS.cel ((cel_of hbl).trans rfl) (fun h => by have := hown.lt _ h; omega))) hS1 ?_
  refine hp 5 rfl (by kernel_rfl) (fun _ _ => mvt (.pointer (some ⟨b, 0, none⟩)) rfl) hS1 ?_
  refine hp 6 rfl (by kernel_rfl) (fun _ _ => nc rfl) hS1 ?_
  refine hp 7 rfl (by kernel_rfl) (fun _ _ => fa fo121_1 rfl) hS1 ?_
  refine hp 8 rfl (by kernel_rfl) (fun w' hS => ld ag29 rfl (hS.cel ((cel_of hbl).trans rfl) (fun h => by have := hown.lt _ h; omega))) hS1 ?_
  refine hp 9 rfl (by kernel_rfl) (fun _ _ => lnl u29 rfl rfl) hS1 ?_
  refine hp 4 rfl (by kernel_rfl) (fun _ _ => usd (v := .nilFunc) rfl (by
      by_cases h : l = []
      · have := hnil.2 h; simp only [Value.slice.injEq] at this; exact .inl this.1
      · right; have : 0 < l.length := List.length_pos_iff.2 h; omega)) hS1 ?_
  refine he 10 rfl (by kernel_rfl) (usg pt140 rfl rfl hown rfl (by omega) fun w13 hM13 hs13 => ?_)
  have hS1_10 : (fun w' => Md (fun k => (Value.slice a l.length c).ownBlock = some k) w w') w13 := hS1.trans' hM13 (fun _ _ h => h)
  refine ⟨hS1_10, ?_⟩
  refine hp 11 rfl (by kernel_rfl) (fun _ _ => asg) hS1_10 ?_
  refine hn (by kernel_rfl) ?_
  refine tn (hK2 _ _ ?_)
  refine rt ?_
  refine f1 rfl rfl ?_
  exact ⟨rfl, hS1_10⟩
end Go.Hb.Builder
