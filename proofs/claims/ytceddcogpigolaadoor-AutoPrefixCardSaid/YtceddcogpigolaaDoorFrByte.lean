/- frame.Stack.Byte by contract. -/
import Derived.Test.YtceddcogpigolaaDoorFr
namespace Go.Proofs.YtceddcogpigolaaDoor
open Go.RowKit Go.Sort

theorem list_set_same {α : Type} {l : List α} {i : Nat} {v : α} (h : l[i]? = some v) : l.set i v = l := by
  apply List.ext_getElem?
  intro k
  by_cases hk : i = k
  · subst hk
    rw [List.getElem?_set_self (List.getElem?_eq_some_iff.1 h).1, h]
  · rw [List.getElem?_set_ne hk]
def Sk.upto (s : Sk) (most : Nat) (c : Int) (k : Nat) : Sk := ⟨(s.l.take k).map (fun f => (f.byte most c).1) ++ s.l.drop k, s.op⟩
def Sk.okto (s : Sk) (most : Nat) (c : Int) (k : Nat) : Bool := (s.l.take k).all fun f => (f.byte most c).2
theorem Sk.upto_at {s : Sk} {most : Nat} {c : Int} {k : Nat} {f : Fr} (h : s.l[k]? = some f) : (s.upto most c k).l[k]? = some f := by
  have hk := (List.getElem?_eq_some_iff.1 h).1
  unfold Sk.upto
  rw [List.getElem?_append_right (by simp; omega)]
  simp [Nat.min_eq_left (Nat.le_of_lt hk), h]
theorem Sk.upto_succ {s : Sk} {most : Nat} {c : Int} {k : Nat} {f : Fr} (h : s.l[k]? = some f) : s.upto most c (k + 1) = ⟨(s.upto most c k).l.set k (f.byte most c).1, s.op⟩ := by
  obtain ⟨hk, he⟩ := List.getElem?_eq_some_iff.1 h
  unfold Sk.upto
  dsimp only
  rw [List.set_append_right _ _ (by simp; omega), List.take_succ_eq_append_getElem hk, List.map_append, List.append_assoc]
  have e : k - (List.map (fun f => (f.byte most c).1) (List.take k s.l)).length = 0 := by simp; omega
  rw [e, List.drop_eq_getElem_cons hk, he]
  rfl
theorem Sk.okto_succ {s : Sk} {most : Nat} {c : Int} {k : Nat} {f : Fr} (h : s.l[k]? = some f) : s.okto most c (k + 1) = (s.okto most c k && (f.byte most c).2) := by
  obtain ⟨hk, he⟩ := List.getElem?_eq_some_iff.1 h
  unfold Sk.okto
  rw [List.take_succ_eq_append_getElem hk, List.all_append, he]
  simp

set_option maxRecDepth 100000 in
set_option maxHeartbeats 8000000 in
theorem sk_byte (B : FB) (hB : B.ok) (most : Nat) (s : Sk) (c : Int) (w : World) (hs : s.sits w B most) :
    Calls Tryd.prog 165 #[.pointer (some ⟨B.sb, 0, none⟩), .int .u8 c] w fun e w' => e = .returned (.bool (s.byte most c).2) ∧ (s.byte most c).1.sits w' B most ∧ Only B.own w w' := by
  have c1 := hs.head.cell 1 (v := .int .i64 s.op) rfl
  have hop := hs.op
  have hn := hs.n64
  have HL := Lib.hid hs.len
  have HB := Lib.hid hB
  have HS := Lib.hid hs
  clear hs hB
  go_enter Tryd.func165, Tryd.ntmps165
  go_wp2_with fail
  go_loopw [5, 14] (fun ok i wr => ∃ k : Nat, k ≤ s.op ∧ i = .int .i64 k ∧ ok = .bool (s.okto most c k) ∧ (s.upto most c k).sits wr B most ∧ Only B.own w wr) (fun _ i _ => s.op - (intOf i).toNat)
  case atStart => exact ⟨0, Nat.zero_le _, rfl, rfl, HS.out, Only.refl _ _⟩
  case round =>
    obtain ⟨k, hk, rfl, rfl, hS, hO⟩ := hrel
    have HO := Lib.hid hO
    clear hO c1
    by_cases hlt : k < s.op
    · obtain ⟨f, hf⟩ : ∃ f, s.l[k]? = some f := ⟨_, List.getElem?_eq_getElem (by rw [HL.out]; omega)⟩
      have hget := Sk.upto_at (most := most) (c := c) hf
      obtain ⟨r0, r1, r2, r3⟩ := hS.row k f hget
      have c0 := hS.head.cell 0 (v := .slice (some ⟨B.fb, 0, none⟩) B.n B.n) rfl
      have k0 : (0 : Int) ≤ (k : Int) := by omega
      have k1 : (k : Int) < (B.n : Int) := by omega
      have HS1 := Lib.hid hS
      have U1 := Lib.hid (Sk.upto_succ (most := most) (c := c) hf)
      have U2 := Lib.hid (Sk.okto_succ (most := most) (c := c) hf)
      have HG := Lib.hid hget
      have KY := Lib.hid (hS.ky k f hget)
      have hkn : k < B.n := by omega
      generalize hb : s.okto most c k = b
      have HBk := Lib.hid hb
      clear hS hget hf hb
      by_cases hw : f.waits = true
      · have W : Hid (Calls Tryd.prog 206 #[.pointer (some ⟨B.fb, k * 4, none⟩)] wr fun e w' => e = .returned (.bool true) ∧ w' = wr) := Lib.hid (by have := fr_waits B.fb (k * 4) f.kind f.half wr r1 r3; unfold Fr.waits at hw; rw [hw] at this; exact this)
        have FB1 : Hid (f.byte most c = ({ f with ky := (f.ky.byte most c).1 }, (f.ky.byte most c).2)) := Lib.hid (by unfold Fr.byte; rw [if_pos hw])
        clear hw
        have NX : Hid (∀ w3, (f.ky.byte most c).1.sits w3 (B.k k) (B.x k) (B.y k) most → Only (of3 (B.k k) (B.x k) (B.y k)) wr w3 → (s.upto most c (k + 1)).sits w3 B most ∧ Only B.own w w3) := by
          refine Lib.hid fun w3 K O => ?_
          rw [U1.out, FB1.out]
          obtain ⟨cs, hcs, hrs⟩ := HS1.out.rows
          refine ⟨HS1.out.renew HB.out k hkn _ s.op (O.blk HS1.out.head fun e => HB.out.s3 k hkn e) cs (O.blk hcs fun e => HB.out.f3 k hkn e) (hrs.putK k HG.out _ rfl rfl rfl) K (O.mono fun _ _ h => Or.inr (Or.inr h)) hop ?_, HO.out.trans (O.mono fun _ _ h => Or.inr (Or.inr ⟨k, hkn, h⟩))⟩
          intro j g hj hg
          rw [List.getElem?_set] at hg
          split at hg
          · rename_i e
            subst e
            split at hg
            · cases hg; exact HS1.out.left k f hj HG.out
            · cases hg
          · exact HS1.out.left j g hj hg
        have FB2 : Hid ((f.byte most c).2 = (f.ky.byte most c).2) := Lib.hid (by rw [FB1.out])
        have KB := Lib.hid (fun W h => ky_byte (B.k k) (B.x k) (B.y k) most f.ky c W h)
        generalize f.ky.byte most c = kb at NX FB2 KB
        obtain ⟨kb1, kb2⟩ := kb
        dsimp only at NX FB2 KB
        go_wp2_with fail
        refine W.out.mono ?_
        rintro ev w1 ⟨rfl, rfl⟩
        go_wp2_with fail
        refine (KB.out _ KY.out).mono ?_
        rintro ev w3 ⟨rfl, K, O⟩
        have N3 := Lib.hid (NX.out _ K O)
        clear K O
        cases kb2 with
        | true =>
          go_wp2_with fail
          go_roundw
          case rel => exact ⟨k + 1, by omega, by go_num, by rw [U2.out, HBk.out, FB2.out, Bool.and_true], N3.out.1, N3.out.2⟩
          case measure => simp [intOf]; omega
        | false =>
          go_wp2_with fail
          go_roundw
          case rel => exact ⟨k + 1, by omega, by go_num, by rw [U2.out, FB2.out, Bool.and_false], N3.out.1, N3.out.2⟩
          case measure => simp [intOf]; omega
      · have hw' : f.waits = false := by simpa using hw
        have W : Hid (Calls Tryd.prog 206 #[.pointer (some ⟨B.fb, k * 4, none⟩)] wr fun e w' => e = .returned (.bool false) ∧ w' = wr) := Lib.hid (by have := fr_waits B.fb (k * 4) f.kind f.half wr r1 r3; unfold Fr.waits at hw'; rw [hw'] at this; exact this)
        have FB1 : Hid (f.byte most c = (f, true)) := Lib.hid (by unfold Fr.byte; rw [hw', if_neg (by simp)])
        have N3 : Hid ((s.upto most c (k + 1)).sits wr B most) := Lib.hid (by rw [U1.out, FB1.out]; have := HS1.out; dsimp only; rw [list_set_same HG.out]; exact this)
        clear hw hw'
        go_wp2_with fail
        refine W.out.mono ?_
        rintro ev w1 ⟨rfl, rfl⟩
        go_wp2_with fail
        go_roundw
        case rel => exact ⟨k + 1, by omega, by go_num, by rw [U2.out, HBk.out, FB1.out, Bool.and_true], N3.out, HO.out⟩
        case measure => simp [intOf]; omega
    · have hke : k = s.op := by omega
      have HS1 := Lib.hid hS
      clear hS
      subst hke
      go_wp2_with fail
      go_returns
      exact ⟨rfl, HS1.out, HO.out⟩

end Go.Proofs.YtceddcogpigolaaDoor
