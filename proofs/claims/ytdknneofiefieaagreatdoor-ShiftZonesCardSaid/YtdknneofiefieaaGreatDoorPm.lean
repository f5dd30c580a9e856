import Derived.Test.YtdknneofiefieaaGreatDoorGp
import Derived.Test.YtdknneofiefieaaGreatDoorGd

namespace Go.Proofs.YtdknneofiefieaaGreatDoor
open Go.RowKit Go.Lib Rt Geo Sh

/-- target k of a slice that begins at block b, offset o -/
structure TA (m : World) (b o k : Nat) (t : Tg) : Prop where
  c0 : m.cell? ⟨b, o + k * 7, none⟩ = some (.int .i64 t.x)
  c1 : m.cell? ⟨b, o + k * 7 + 1, none⟩ = some (.int .i64 t.y)
  c2 : m.cell? ⟨b, o + k * 7 + 2, none⟩ = some (.int .i64 t.lo)
  c3 : m.cell? ⟨b, o + k * 7 + 3, none⟩ = some (.int .i64 t.hi)
  c4 : m.cell? ⟨b, o + k * 7 + 4, none⟩ = some (.int .i64 t.tol)
  c5 : m.cell? ⟨b, o + k * 7 + 5, none⟩ = some (.int .i64 t.mat)
  c6 : m.cell? ⟨b, o + k * 7 + 6, none⟩ = some (.bool t.pin)
/-- circle k -/
structure CA (m : World) (b o k : Nat) (c : Ci) : Prop where
  c0 : m.cell? ⟨b, o + k * 3, none⟩ = some (.int .i64 c.x)
  c1 : m.cell? ⟨b, o + k * 3 + 1, none⟩ = some (.int .i64 c.y)
  c2 : m.cell? ⟨b, o + k * 3 + 2, none⟩ = some (.int .i64 c.n)
theorem TA.step {x y : World} {b o k : Nat} {t : Tg} (h : TA x b o k t) (hb : Below x.heap.size x y) : TA y b o k t := ⟨cell_bl hb h.c0, cell_bl hb h.c1, cell_bl hb h.c2, cell_bl hb h.c3, cell_bl hb h.c4, cell_bl hb h.c5, cell_bl hb h.c6⟩
theorem CA.step {x y : World} {b o k : Nat} {c : Ci} (h : CA x b o k c) (hb : Below x.heap.size x y) : CA y b o k c := ⟨cell_bl hb h.c0, cell_bl hb h.c1, cell_bl hb h.c2⟩
/-- a plate in memory -/
structure PM (m : World) (b o b' o' : Nat) (ts : List (Tg × Ci)) : Prop where
  t : ∀ k p, ts[k]? = some p → TA m b o k p.1
  c : ∀ k p, ts[k]? = some p → CA m b' o' k p.2
theorem PM.step {x y : World} {b o b' o' : Nat} {ts : List (Tg × Ci)} (h : PM x b o b' o' ts) (hb : Below x.heap.size x y) : PM y b o b' o' ts := ⟨fun k p hp => (h.t k p hp).step hb, fun k p hp => (h.c k p hp).step hb⟩

/-- a task as a value -/
def tkv (b o n cp b' o' cp' : Nat) (play : Int) : Array Value := #[.slice (some ⟨b, o, none⟩) n cp, .slice (some ⟨b', o', none⟩) n cp', .int .i64 play]

/-- targets of a slice; circles of a slice -/
structure TL (m : World) (p : Option Addr) (ts : List Tg) : Prop where
  get : ∀ k t, ts[k]? = some t → ∃ b o, p = some ⟨b, o, none⟩ ∧ TA m b o k t
structure CL (m : World) (p : Option Addr) (cs : List Ci) : Prop where
  get : ∀ k c, cs[k]? = some c → ∃ b o, p = some ⟨b, o, none⟩ ∧ CA m b o k c
theorem TL.step {x y : World} {p : Option Addr} {ts : List Tg} (h : TL x p ts) (hb : Below x.heap.size x y) : TL y p ts :=
  ⟨fun k t e => by obtain ⟨b, o, h1, h2⟩ := h.get k t e; exact ⟨b, o, h1, h2.step hb⟩⟩
theorem CL.step {x y : World} {p : Option Addr} {ts : List Ci} (h : CL x p ts) (hb : Below x.heap.size x y) : CL y p ts :=
  ⟨fun k t e => by obtain ⟨b, o, h1, h2⟩ := h.get k t e; exact ⟨b, o, h1, h2.step hb⟩⟩
end Go.Proofs.YtdknneofiefieaaGreatDoor
