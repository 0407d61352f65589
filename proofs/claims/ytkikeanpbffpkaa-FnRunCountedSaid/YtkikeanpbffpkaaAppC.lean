/- append of one cell in a region that is not drawn. -/
import Derived.Test.YtkikeanpbffpkaaChecked
import Derived.Test.YtkikeanpbffpkaaGrCopy
namespace Go.Proofs.Ytkikeanpbffpkaa
open Go.RowKit
section
variable {w : World} {ops : Array Oper} {o : Oper} {a : Act}
theorem wpList_appc {rest : List Oper} {Q : Exit → Act → World → Prop} (hgd : o.guard = none) (s x : Operand) (ho : o.op = .call { callee := .builtin .append, args := #[s, x], argTypes := #[23, 23] })
    {S : Option Addr} {c b c2 : Nat} {os : List OCell} (hs : a.eval s = .slice S os.length c) (hx : a.eval x = .slice (some ⟨b, 0, none⟩) 1 c2)
    (hown : OC w S c os) (oc : OCell) (hoc : OF 3 fi w oc.A oc.cap oc.c.refs) (hol : oc.c.refs.length ≤ 9223372036854775807)
    (k0 : w.cell? ⟨b, 0, none⟩ = some (.bool oc.c.used)) (k1 : w.cell? ⟨b, 1, none⟩ = some (.int .i64 oc.c.data)) (k2 : w.cell? ⟨b, 2, none⟩ = some (.slice oc.A oc.c.refs.length oc.cap)) (h : os.length ≤ 1099511627776)
    (hK : ∀ S' c' w', OC w' S' c' (os ++ [oc]) → Only (blk S) w w' → (∀ g ∈ blk S', g ∈ blk S ∨ w.heap.size ≤ g) → wpList Try.prog ops Q rest (a.put o.dst (.slice S' (os ++ [oc]).length c')) w') :
    wpList Try.prog ops Q (o :: rest) a w := by
  obtain ⟨S', c', w', hrun, h1, h2, h3⟩ := app_cell o.type hown oc hoc hol b c2 k0 k1 k2 h
  exact wpList_ran hgd s x _ ho hs hx hrun (hK _ _ _ h1 h2 h3)
end
end Go.Proofs.Ytkikeanpbffpkaa
