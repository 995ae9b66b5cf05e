/-
  The data of the statements about gateways, as plain Lean, and how they are coded.
-/
import Derived.Test.YtcpfkcipnkeokaaFwV
namespace Go.Proofs.YtcpfkcipnkeokaaFw
open Go
set_option linter.unusedVariables false
set_option linter.unusedSimpArgs false

structure Filter where
  ext : Bool
  mask : Int
  mat : Int
  deriving DecidableEq
structure Frame where
  ext : Bool
  id : Int
  rem : Bool
  len : Int
  data : List Int
  deriving DecidableEq
structure Route where
  src : Int
  to : Int
  take : Filter
  new : Int
  deriving DecidableEq
structure Hop where
  to : Int
  frame : Frame
  deriving DecidableEq
structure Gate where
  routes : List Route
  cap : Int
  out : List (List Frame)
  lost : List Int
  deriving DecidableEq

def encB (b : Int) : List PV := [.int .u8 b]
def encI (n : Int) : List PV := [.int .i64 n]
def encFilter (f : Filter) : List PV := [.bool f.ext, .int .i64 f.mask, .int .i64 f.mat]
/-- A frame's cells; t: is its data's capacity its length? -/
def encFrame (t : Bool) (f : Frame) : List PV := [.bool f.ext, .int .i64 f.id, .bool f.rem, .int .i64 f.len, .sl t 1 (f.data.map encB)]
def encRoute (r : Route) : List PV := [.int .i64 r.src, .int .i64 r.to, .bool r.take.ext, .int .i64 r.take.mask, .int .i64 r.take.mat, .int .i64 r.new]
def encHop (h : Hop) : List PV := .int .i64 h.to :: encFrame false h.frame
def encRow (l : List Frame) : List PV := [.sl false 5 (l.map (encFrame false))]

theorem encB_fz (b : Int) : ∀ c ∈ encB b, c.fz = true := by simp [encB, PV.fz]
theorem encI_fz (n : Int) : ∀ c ∈ encI n, c.fz = true := by simp [encI, PV.fz]
theorem encFrame_fz (t : Bool) (f : Frame) : ∀ c ∈ encFrame t f, c.fz = true := by simp [encFrame, PV.fz]
theorem encRoute_fz (r : Route) : ∀ c ∈ encRoute r, c.fz = true := by simp [encRoute, PV.fz]
theorem encHop_fz (h : Hop) : ∀ c ∈ encHop h, c.fz = true := by simp [encHop, encFrame, PV.fz]
theorem encRow_fz (l : List Frame) : ∀ c ∈ encRow l, c.fz = true := by simp [encRow, PV.fz]
theorem ren_hop (l : List Hop) (r : Nat → Nat) : (l.map encHop).map (renL r) = l.map encHop := map_ren_fz _ (fz_map encHop_fz l) r
theorem ok_hop (l : List Hop) (S : Nat → Prop) : (∀ e ∈ l.map encHop, okL S e) = True := all_ok_fz _ (fz_map encHop_fz l) S
theorem ren_frm (t : Bool) (l : List Frame) (r : Nat → Nat) : (l.map (encFrame t)).map (renL r) = l.map (encFrame t) := map_ren_fz _ (fz_map (encFrame_fz t) l) r
theorem ok_frm (t : Bool) (l : List Frame) (S : Nat → Prop) : (∀ e ∈ l.map (encFrame t), okL S e) = True := all_ok_fz _ (fz_map (encFrame_fz t) l) S
theorem ren_rt (l : List Route) (r : Nat → Nat) : (l.map encRoute).map (renL r) = l.map encRoute := map_ren_fz _ (fz_map encRoute_fz l) r
theorem ok_rt (l : List Route) (S : Nat → Prop) : (∀ e ∈ l.map encRoute, okL S e) = True := all_ok_fz _ (fz_map encRoute_fz l) S
theorem ren_int (l : List Int) (r : Nat → Nat) : (l.map encI).map (renL r) = l.map encI := map_ren_fz _ (fz_map encI_fz l) r
theorem ok_int (l : List Int) (S : Nat → Prop) : (∀ e ∈ l.map encI, okL S e) = True := all_ok_fz _ (fz_map encI_fz l) S
theorem ren_rows (l : List (List Frame)) (r : Nat → Nat) : (l.map encRow).map (renL r) = l.map encRow := map_ren_fz _ (fz_map encRow_fz l) r
theorem ok_rows (l : List (List Frame)) (S : Nat → Prop) : (∀ e ∈ l.map encRow, okL S e) = True := all_ok_fz _ (fz_map encRow_fz l) S
theorem fz_hop (l : List Hop) : (∀ e ∈ l.map encHop, ∀ c ∈ e, c.fz = true) = True := eq_true (fz_map encHop_fz l)
theorem fz_frm (t : Bool) (l : List Frame) : (∀ e ∈ l.map (encFrame t), ∀ c ∈ e, c.fz = true) = True := eq_true (fz_map (encFrame_fz t) l)
theorem fz_rt (l : List Route) : (∀ e ∈ l.map encRoute, ∀ c ∈ e, c.fz = true) = True := eq_true (fz_map encRoute_fz l)
theorem fz_int (l : List Int) : (∀ e ∈ l.map encI, ∀ c ∈ e, c.fz = true) = True := eq_true (fz_map encI_fz l)
theorem fz_byt (l : List Int) : (∀ e ∈ l.map encB, ∀ c ∈ e, c.fz = true) = True := eq_true (fz_map encB_fz l)
theorem fz_rows (l : List (List Frame)) : (∀ e ∈ l.map encRow, ∀ c ∈ e, c.fz = true) = True := eq_true (fz_map encRow_fz l)
end Go.Proofs.YtcpfkcipnkeokaaFw
