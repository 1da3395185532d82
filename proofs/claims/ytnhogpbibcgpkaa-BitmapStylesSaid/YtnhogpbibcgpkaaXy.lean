/- The executor: words for walks that are printed. -/
import Derived.Test.YtnhogpbibcgpkaaXx
import Derived.Test.YtnhogpbibcgpkaaXt
import Derived.Test.YtnhogpbibcgpkaaProg
import Derived.KernelRfl
namespace Go.Proofs.Ytnhogpbibcgpkaa.Xe
open Go
/-- What is to be done at the beginning of each loop. -/
def loopsIn : List Item → Code → List (List Item)
  | k, .loop b => (.inLoop b :: k) :: loopsIn (.inLoop b :: k) b
  | k, .seq a b => loopsIn (.code b :: k) a ++ loopsIn k b
  | k, .cond _ a b => loopsIn k a ++ loopsIn k b
  | k, .block id b => loopsIn (.inBlock id :: k) b
  | k, .scope b => loopsIn (.inScope b :: k) b
  | _, _ => []
def todoAt (id : Nat) (c : Code) : List Item := ((loopsIn [] c).find? fun t => match t with | .inLoop b :: _ => firstRegion b == some id | _ => false).getD []
theorem tabOk : TabOk Try.prog tab := by
  show tab.zipIdx.map (fun q => mkTI Try.prog q.2 q.1) = tab
  kernel_rfl
theorem mixed : Try.prog.follows .mixedOrders = true := by kernel_rfl
def AllOk : List Con → Prop
  | [] => True
  | c :: l => ConOk Try.prog c ∧ AllOk l
theorem AllOk.all : ∀ {l : List Con}, AllOk l → ∀ c ∈ l, ConOk Try.prog c
  | _ :: _, ⟨h, _⟩, _, .head _ => h
  | _ :: _, ⟨_, h⟩, _, .tail _ hm => h.all _ hm
/-- A function's contract, by its walk. -/
theorem walked {C : Ctx} {fn : Func} {id : FuncId} {sg : List Shp} {rs : Rs} {f : El (sgTy sg) → Option (El rs.ty)} (hT : C.T = tab) (hf : Try.prog.funcs[id]? = some fn) (hb : fn.body = some (fn.body.getD .skip)) (hn : (fn.name == "runtime.NumGoroutine") = false) (hS : C.S = []) (hG : AllOk C.G)
    (h : ∀ x y, f x = some y → ∃ n, call C fn (fn.body.getD .skip) sg rs n x = some y) : ConOk Try.prog ⟨id, sg, rs, f⟩ :=
  con_ok (by rw [hT]; exact tabOk) ⟨hG.all, fun c hc => by rw [hS] at hc; cases hc⟩ mixed hf hb hn h
end Go.Proofs.Ytnhogpbibcgpkaa.Xe
