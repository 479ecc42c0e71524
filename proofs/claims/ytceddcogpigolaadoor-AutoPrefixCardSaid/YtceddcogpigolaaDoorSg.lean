/- 'wpStill' behind a wall, as QG is for 'wpQuiet'. -/
import Derived.Test.YtceddcogpigolaaDoorMem
import Derived.StillTailTactics
namespace Go.Proofs.YtceddcogpigolaaDoor
open Go.RowKit Go.Sort

structure SG (P : Program) (ops : Array Oper) (w : World) (Q : Act → Prop) (l : List Oper) (a : Act) : Prop where
  out : wpStill P ops w Q l a
theorem sg_nil {P : Program} {ops : Array Oper} {w : World} {Q : Act → Prop} {a : Act} (h : Q a) : SG P ops w Q [] a := ⟨h⟩
theorem sg_step {P : Program} {ops : Array Oper} {w : World} {Q : Act → Prop} {a : Act} {o : Oper} {rest : List Oper}
    (h : ∀ K : Act → Prop, (∀ a, SG P ops w Q rest a → K a) → if Region.wanted o (yielded ops a.tmps) then o.still P a w K else K (a.put o.dst undef)) : SG P ops w Q (o :: rest) a :=
  ⟨wpStill_step fun K hK => h K fun a q => hK a q.out⟩
theorem wp_region_sg {P : Program} {id : Nat} {Q : Exit → Act → World → Prop} {a : Act} {w : World} {l : List Oper} (n : Nat) (hm : P.follows .mixedOrders = true) (hB : Region.lexTailB .any l.toArray n = true)
    (h : SG P l.toArray w.drew (fun a' => wpList P l.toArray Q (l.drop n) a' w.drew) (l.take n) a) : (Code.region id l.toArray true).wp P Q a w :=
  wp_region_still_tail n hm hB h.out

end Go.Proofs.YtceddcogpigolaaDoor
