/- auto.New and auto.Whole by contracts. -/
import Derived.Test.YtceddcogpigolaaDoorAuP
import Derived.Deep.RegionHeld3
namespace Go.Proofs.YtceddcogpigolaaDoor
open Go.RowKit Go.Sort

theorem rd0_fit : rd0.fit := ⟨hd0_fit, fun e => absurd e (by simp [rd0])⟩
theorem au0_good (l : Li) : (au0 l).good := ⟨rd0_fit, hd0_fit, wk0_fit, fun _ => by simp [au0, wk0], by simp [au0], by simp [au0]⟩
theorem Sk.sits.lt {s : Sk} {w : World} {B : FB} {most : Nat} (h : s.sits w B most) : ∀ b, B.own b → b < w.heap.size := by
  rintro b (rfl | rfl | ⟨i, hi, hb⟩)
  · exact h.head.lt
  · exact h.rows.choose_spec.1.lt
  · exact (h.ky i _ (List.getElem?_eq_getElem (by rw [h.len]; exact hi))).lt3 b hb
theorem au_laid {w Wf : World} {B : FB} {n key eb ab : Nat} {s : Int} {cs : List Value} (hB : B.ok) (hBn : B.n = n) (hK : (sk0 n).sits Wf B key) (hE : Blk Wf eb cs 75) (hcl : cs.length = 792)
    (hA : Blk Wf ab (Au.cells (au0 ⟨n, key, s⟩) ⟨B, ab, eb⟩) 140) (hne : ab ≠ eb) (nb : ¬ B.own ab) (ne : ¬ B.own eb) (base : ∀ b, B.own b → w.heap.size ≤ b) (h2 : 2 < w.heap.size) (ha : w.heap.size ≤ ab) (he : w.heap.size ≤ eb) (hb : Below w.heap.size w Wf) :
    ∃ A : AB, (⟨A.ab, 0, none⟩ : Addr) = ⟨ab, 0, none⟩ ∧ A.ok ∧ (A.B.n : Int) = n ∧ (au0 ⟨n, key, s⟩).sits Wf A (key : Int).toNat ∧ Below w.heap.size w Wf ∧ ∀ b, A.own b → w.heap.size ≤ b := by
  have hown : ∀ b, (⟨B, ab, eb⟩ : AB).own b → w.heap.size ≤ b := by
    rintro b (rfl | rfl | hb)
    · exact ha
    · exact he
    · exact base b hb
  exact ⟨⟨B, ab, eb⟩, rfl, ⟨hB, hne, nb, ne, fun h => by have := hown 2 h; omega⟩, by exact_mod_cast hBn, ⟨hA, ⟨cs, hE, hcl, evRows_nil _⟩, Nat.zero_le _, by simpa [au0] using hK⟩, hb, hown⟩

set_option maxRecDepth 100000 in
set_option maxHeartbeats 8000000 in
theorem au_new (l : Li) (hl : liRight l = true) (w : World) (h2 : 2 < w.heap.size) :
    Calls Tryd.prog 32 #[l.val] w fun e w' => ∃ A : AB, e = .returned (.tuple #[.pointer (some ⟨A.ab, 0, none⟩), .int .i64 0]) ∧ A.ok ∧ (A.B.n : Int) = l.depth ∧ (au0 l).sits w' A l.key.toNat ∧ Below w.heap.size w w' ∧ ∀ b, A.own b → w.heap.size ≤ b := by
  have LC := Lib.hid (fun W => limit_check l W)
  rw [hl] at LC
  have hR : 1 ≤ l.depth ∧ l.depth ≤ 64 ∧ 1 ≤ l.key ∧ l.key ≤ 1024 ∧ 1 ≤ l.size ∧ l.size ≤ 2305843009213693951 := by simpa [liRight] using hl
  obtain ⟨d, k, s⟩ := l
  dsimp only [Li.val] at *
  obtain ⟨n, rfl⟩ : ∃ n : Nat, d = n := ⟨d.toNat, by omega⟩
  obtain ⟨key, rfl⟩ : ∃ n : Nat, k = n := ⟨k.toNat, by omega⟩
  have SN := Lib.hid (fun W => sk_new n key (by omega) (by omega) (by omega) (by omega) W)
  obtain ⟨cs, hcl, hmk⟩ := make99
  have CL := Lib.hid hcl
  have HR := Lib.hid hR
  have H2 := Lib.hid h2
  clear hl hR hcl h2
  go_enter Tryd.func32, Tryd.ntmps32
  go_wp2_with fail
  refine (LC.out _).mono ?_
  rintro ev W ⟨rfl, hb⟩
  have hE := (Blk.new w #[.int .i64 (n : Int), .int .i64 (key : Int), .int .i64 s] 61).below hb
  have HB := Lib.hid (below_then (show Below w.heap.size w _ by go_grown) hb)
  clear hb
  generalize hN : w.heap.size = N at *
  have HN := Lib.hid hN
  have HE := Lib.hid hE
  have hc := hE.at
  have hlt := hE.lt
  clear hE hN
  go_wp2_with fail
  have z0 := HE.out.cell 0 (v := .int .i64 (n : Int)) rfl
  have z1 := HE.out.cell 1 (v := .int .i64 (key : Int)) rfl
  have z2 := HE.out.cell 2 (v := .int .i64 s) rfl
  clear hc
  go_region_held3 (fun w' => w'.cell? ⟨N, 0, none⟩ = some (.int .i64 (n : Int)) ∧ w'.cell? ⟨N, 1, none⟩ = some (.int .i64 (key : Int)) ∧ w'.cell? ⟨N, 2, none⟩ = some (.int .i64 s)) (first | exact ⟨y0, y1, y2⟩ | go_keep) ((go_at_call 79; refine (SN.out _).mono ?_; rintro ev w1 ⟨B, rfl, hBok, hBn, K, hb, own⟩; have hE1 : Hid (Blk w1 N [.int .i64 (n : Int), .int .i64 (key : Int), .int .i64 s] 61) := Lib.hid (by first | exact HE.out.drew.below hb | exact (HE.out.drew.alloc _).below hb); have y0 := hE1.out.cell 0 (v := .int .i64 (n : Int)) rfl; have y1 := hE1.out.cell 1 (v := .int .i64 (key : Int)) rfl; have y2 := hE1.out.cell 2 (v := .int .i64 s) rfl; have hB1 := Lib.hid hb; have hK1 := Lib.hid K; have hO1 := Lib.hid own; clear hb K own))
  · go_wp2_with fail
    go_returns
    have lt1 := hK1.out.lt
    have b1 : Below W.heap.size W w1 := below_of_drew hB1.out
    have sz := b1.size
    have h2 := H2.out
    have hn := HN.out
    obtain ⟨A, e1, e2⟩ := au_laid (w := w) (ab := w1.heap.size + 1) (eb := w1.heap.size) (s := s) hBok hBn (hK1.out.below (w' := (w1.alloc (.cells cs.toArray 75)).alloc _) (by go_grown)) ((Blk.new w1 cs.toArray 75).alloc _) (by simpa using CL.out)
      (Blk.new' (by simp) _ 140) (by omega) (fun h => by have := lt1 _ h; omega) (fun h => by have := lt1 _ h; omega) (fun b h => by have h3 : W.heap.size ≤ b := hO1.out b h; omega) (by omega) (by omega) (by omega) (by
        rw [hn]
        have h4 : Below N w w1 := HB.out.trans (b1.mono (by omega))
        exact (h4.alloc (by omega) _).alloc (by simp; omega) _)
    injection e1 with e1
    refine ⟨A, ?_, e2⟩
    rw [e1]
    rfl
  · go_wp2_with fail
    go_returns
    have lt1 := hK1.out.lt
    have b1 : Below (W.alloc (.cells cs.toArray 75)).heap.size (W.alloc (.cells cs.toArray 75)) w1 := below_of_drew hB1.out
    have sz : (W.alloc (.cells cs.toArray 75)).heap.size ≤ w1.heap.size := b1.size
    have h2 := H2.out
    have hn := HN.out
    have ws : (W.alloc (.cells cs.toArray 75)).heap.size = W.heap.size + 1 := by simp
    obtain ⟨A, e1, e2⟩ := au_laid (w := w) (ab := w1.heap.size) (eb := W.heap.size) (s := s) hBok hBn (hK1.out.below (w' := w1.alloc _) (by go_grown)) (((Blk.new W cs.toArray 75).below b1).alloc _) (by simpa using CL.out)
      (Blk.new' rfl _ 140) (by omega) (fun h => by have := lt1 _ h; omega) (fun h => by have h3 : (W.alloc (.cells cs.toArray 75)).heap.size ≤ W.heap.size := hO1.out _ h; omega) (fun b h => by have h3 : (W.alloc (.cells cs.toArray 75)).heap.size ≤ b := hO1.out b h; omega) (by omega) (by omega) (by omega) (by
        rw [hn]
        have h4 : Below N w w1 := (HB.out.alloc (by omega) _).trans (b1.mono (by omega))
        exact h4.alloc (by omega) _)
    injection e1 with e1
    refine ⟨A, ?_, e2⟩
    rw [e1]
    rfl

end Go.Proofs.YtceddcogpigolaaDoor
