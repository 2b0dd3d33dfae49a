/- Texts of this proof, laid together by wip/tools/pack.py: TT, TG. -/
import Derived.Test.YtdklknfgcepcbaaGreatZ4
namespace Go.Proofs.YtdklknfgcepcbaaGreat.X
open Go.RowKit Go.Proofs.YtdklknfgcepcbaaGreatW.PrintWords Go.Proofs.YtdklknfgcepcbaaGreatW.PrintLast Go.Proofs.YtdklknfgcepcbaaGreatW.PrintMore
set_option linter.unusedSimpArgs false
set_option linter.unusedVariables false
set_option maxHeartbeats 2000000
set_option maxRecDepth 20000
structure T.Head where
  height : Int
  prev : List Int
  links : List Int
  txs : List Int
  past : List Int
  work : List Int
  bits : Int
  nonce : Int
abbrev T.u8s (l : List Int) : List Value := encs (Value.int .u8) l
abbrev T.u64s (l : List Int) : List Value := encs (Value.int .u64) l
def T.Head.cells (h : T.Head) : List Value := .int .i64 h.height :: (T.u8s h.prev ++ (T.u8s h.links ++ (T.u8s h.txs ++ (T.u8s h.past ++ (T.u64s h.work ++ [.int .u32 h.bits, .int .u64 h.nonce])))))
structure T.Head.ok (h : T.Head) : Prop where
  prev : h.prev.length = 32
  links : h.links.length = 32
  txs : h.txs.length = 32
  past : h.past.length = 32
  work : h.work.length = 4
def T.z32 : List Int := [0, 0, 0, 0, 0, 0, 0, 0, 0, 0, 0, 0, 0, 0, 0, 0, 0, 0, 0, 0, 0, 0, 0, 0, 0, 0, 0, 0, 0, 0, 0, 0]
def T.Head.zero : T.Head := ⟨0, T.z32, T.z32, T.z32, T.z32, [0, 0, 0, 0], 0, 0⟩
structure T.Tot where
  h : List Int
  w : List Int
  n : Int
def T.Tot.cells (t : T.Tot) : List Value := T.u8s t.h ++ (T.u64s t.w ++ [.int .i64 t.n])
structure T.Tot.ok (t : T.Tot) : Prop where
  h : t.h.length = 32
  w : t.w.length = 4
def T.Tot.zero : T.Tot := ⟨T.z32, [0, 0, 0, 0], 0⟩
abbrev T.nilS : Value := .slice none 0 0
class T.TZ (ty : TypeId) (zs : outParam (List Value)) : Prop where out : T.zeroOf Tryz.prog ty = some zs
class T.TN (ty : TypeId) (n : outParam Nat) : Prop where out : (Tryz.prog.info? ty).map (·.size) = some n
class T.TU (ty : TypeId) : Prop where out : ∃ d, Tryz.prog.underlying ty = some d ∧ d.isRow = true
class T.TS (ty : TypeId) : Prop where out : ∀ w, (isAgg ty).run Tryz.prog w = .ok false w
class T.TE (t : TypeId) (e : outParam TypeId) (sz : outParam Nat) (bytes : outParam Nat) : Prop where out : T.El Tryz.prog t e sz bytes
class T.TL (t : TypeId) (e : outParam TypeId) : Prop where out : Tryz.prog.underlying t = some (.slice e)
class T.TA (t : TypeId) (n : outParam Nat) (e : outParam TypeId) : Prop where out : Tryz.prog.underlying t = some (.array n e)
class T.Fd (b : Nat) (L : List T.Blk) (t : outParam TypeId) (cs : outParam (List Value)) : Prop where out : .b b t cs ∈ L
instance (priority := high) T.fdHead (b : Nat) (t : TypeId) (cs : List Value) (L : List T.Blk) : T.Fd b (.b b t cs :: L) t cs := ⟨List.mem_cons_self⟩
instance (priority := low) T.fdTail (b : Nat) (t : TypeId) (cs : List Value) (e : T.Blk) (L : List T.Blk) [h : T.Fd b L t cs] : T.Fd b (e :: L) t cs := ⟨List.mem_cons_of_mem _ h.out⟩
class T.Fg (v : Value) (L : List T.Blk) (e : outParam TypeId) (sz : outParam Nat) (n : outParam Nat) (xs : outParam (List Value)) : Prop where out : .g v e sz n xs ∈ L
instance (priority := high) T.fgHead (v : Value) (e : TypeId) (sz n : Nat) (xs : List Value) (L : List T.Blk) : T.Fg v (.g v e sz n xs :: L) e sz n xs := ⟨List.mem_cons_self⟩
instance (priority := low) T.fgTail (v : Value) (e : TypeId) (sz n : Nat) (xs : List Value) (x : T.Blk) (L : List T.Blk) [h : T.Fg v L e sz n xs] : T.Fg v (x :: L) e sz n xs := ⟨List.mem_cons_of_mem _ h.out⟩
instance : T.TZ 44 (T.u8s T.z32) := ⟨by kernel_rfl⟩
instance : T.TN 44 32 := ⟨by kernel_rfl⟩
instance : T.TU 44 := ⟨_, Tryz.underlying44, rfl⟩
instance : T.TZ 43 (T.u8s T.z32) := ⟨by kernel_rfl⟩
instance : T.TN 43 32 := ⟨by kernel_rfl⟩
instance : T.TU 43 := ⟨_, Tryz.underlying43, rfl⟩
instance : T.TZ 47 (T.u64s [0, 0, 0, 0]) := ⟨by kernel_rfl⟩
instance : T.TN 47 4 := ⟨by kernel_rfl⟩
instance : T.TU 47 := ⟨_, Tryz.underlying47, rfl⟩
instance : T.TZ 50 (T.Head.zero.cells) := ⟨by kernel_rfl⟩
instance : T.TN 50 135 := ⟨by kernel_rfl⟩
instance : T.TU 50 := ⟨_, Tryz.underlying50, rfl⟩
instance : T.TZ 120 (T.Tot.zero.cells) := ⟨by kernel_rfl⟩
instance : T.TN 120 37 := ⟨by kernel_rfl⟩
instance : T.TU 120 := ⟨_, Tryz.underlying120, rfl⟩
instance : T.TZ 151 ((T.u8s T.z32 ++ [.int .i64 0])) := ⟨by kernel_rfl⟩
instance : T.TN 151 33 := ⟨by kernel_rfl⟩
instance : T.TU 151 := ⟨_, Tryz.underlying151, rfl⟩
instance : T.TZ 154 ([.int .i64 0, .int .i64 0]) := ⟨by kernel_rfl⟩
instance : T.TN 154 2 := ⟨by kernel_rfl⟩
instance : T.TU 154 := ⟨_, Tryz.underlying154, rfl⟩
instance : T.TZ 95 ([T.nilS, T.nilS]) := ⟨by kernel_rfl⟩
instance : T.TN 95 2 := ⟨by kernel_rfl⟩
instance : T.TU 95 := ⟨_, Tryz.underlying95, rfl⟩
instance : T.TZ 234 ((T.u8s T.z32 ++ [.int .i64 0]) ++ [.int .i64 0, .int .i64 0]) := ⟨by kernel_rfl⟩
instance : T.TN 234 35 := ⟨by kernel_rfl⟩
instance : T.TU 234 := ⟨_, Tryz.underlying234, rfl⟩
instance : T.TZ 56 (T.Head.zero.cells ++ [T.nilS, T.nilS]) := ⟨by kernel_rfl⟩
instance : T.TN 56 137 := ⟨by kernel_rfl⟩
instance : T.TU 56 := ⟨_, Tryz.underlying56, rfl⟩
instance : T.TZ 53 (T.Head.zero.cells ++ [T.nilS]) := ⟨by kernel_rfl⟩
instance : T.TN 53 136 := ⟨by kernel_rfl⟩
instance : T.TU 53 := ⟨_, Tryz.underlying53, rfl⟩
instance : T.TZ 27 ([.int .i64 0, .int .i64 0, T.nilS]) := ⟨by kernel_rfl⟩
instance : T.TN 27 3 := ⟨by kernel_rfl⟩
instance : T.TU 27 := ⟨_, Tryz.underlying27, rfl⟩
instance : T.TZ 79 ((T.Head.zero.cells ++ [T.nilS, T.nilS]) ++ [T.nilS, T.nilS]) := ⟨by kernel_rfl⟩
instance : T.TN 79 139 := ⟨by kernel_rfl⟩
instance : T.TU 79 := ⟨_, Tryz.underlying79, rfl⟩
instance : T.TZ 160 (((T.Head.zero.cells ++ [T.nilS, T.nilS]) ++ [T.nilS, T.nilS]) ++ ((T.Head.zero.cells ++ [T.nilS, T.nilS]) ++ (T.Head.zero.cells ++ [T.nilS]))) := ⟨by kernel_rfl⟩
instance : T.TN 160 412 := ⟨by kernel_rfl⟩
instance : T.TU 160 := ⟨_, Tryz.underlying160, rfl⟩
instance : T.TZ 85 ([.int .i64 0, .int .i64 0, T.nilS, T.nilS, .int .i64 0]) := ⟨by kernel_rfl⟩
instance : T.TN 85 5 := ⟨by kernel_rfl⟩
instance : T.TU 85 := ⟨_, Tryz.underlying85, rfl⟩
instance : T.TZ 99 ([T.nilS, .int .i64 0, .int .i64 0, T.nilS, T.nilS]) := ⟨by kernel_rfl⟩
instance : T.TN 99 5 := ⟨by kernel_rfl⟩
instance : T.TU 99 := ⟨_, Tryz.underlying99, rfl⟩
instance : T.TZ 72 ([.int .i64 0, .int .i64 0, T.nilS]) := ⟨by kernel_rfl⟩
instance : T.TN 72 3 := ⟨by kernel_rfl⟩
instance : T.TU 72 := ⟨_, Tryz.underlying72, rfl⟩
instance : T.TZ 171 ([T.nilS]) := ⟨by kernel_rfl⟩
instance : T.TN 171 1 := ⟨by kernel_rfl⟩
instance : T.TU 171 := ⟨_, Tryz.underlying171, rfl⟩
instance : T.TZ 252 (T.u8s (T.z32 ++ T.z32)) := ⟨by kernel_rfl⟩
instance : T.TN 252 64 := ⟨by kernel_rfl⟩
instance : T.TU 252 := ⟨_, Tryz.underlying252, rfl⟩
instance : T.TZ 196 (List.replicate 6 Value.nilFunc) := ⟨by kernel_rfl⟩
instance : T.TN 196 6 := ⟨by kernel_rfl⟩
instance : T.TU 196 := ⟨_, Tryz.underlying196, rfl⟩
instance : T.TZ 88 (List.replicate 3 Value.nilFunc) := ⟨by kernel_rfl⟩
instance : T.TN 88 3 := ⟨by kernel_rfl⟩
instance : T.TU 88 := ⟨_, Tryz.underlying88, rfl⟩
instance : T.TZ 188 (encs (Value.int .u32) [0, 0, 0, 0, 0, 0, 0, 0]) := ⟨by kernel_rfl⟩
instance : T.TN 188 8 := ⟨by kernel_rfl⟩
instance : T.TU 188 := ⟨_, Tryz.underlying188, rfl⟩
instance : T.TZ 226 (encs (Value.int .u32) (List.replicate 64 0)) := ⟨by kernel_rfl⟩
instance : T.TN 226 64 := ⟨by kernel_rfl⟩
instance : T.TU 226 := ⟨_, Tryz.underlying226, rfl⟩
instance : T.TZ 110 ([]) := ⟨by kernel_rfl⟩
instance : T.TN 110 0 := ⟨by kernel_rfl⟩
instance : T.TU 110 := ⟨_, Tryz.underlying110, rfl⟩
instance : T.TZ 109 ([]) := ⟨by kernel_rfl⟩
instance : T.TN 109 0 := ⟨by kernel_rfl⟩
instance : T.TU 109 := ⟨_, Tryz.underlying109, rfl⟩
instance : T.TZ 3 [.int .i64 0] := ⟨by kernel_rfl⟩
instance : T.TN 3 1 := ⟨by kernel_rfl⟩
instance : T.TS 3 := ⟨fun w => Tryz.isAgg3 w⟩
instance : T.TZ 4 [.bool false] := ⟨by kernel_rfl⟩
instance : T.TN 4 1 := ⟨by kernel_rfl⟩
instance : T.TS 4 := ⟨fun w => Tryz.isAgg4 w⟩
instance : T.TZ 5 [.int .u8 0] := ⟨by kernel_rfl⟩
instance : T.TN 5 1 := ⟨by kernel_rfl⟩
instance : T.TS 5 := ⟨fun w => Tryz.isAgg5 w⟩
instance : T.TZ 45 [.int .u64 0] := ⟨by kernel_rfl⟩
instance : T.TN 45 1 := ⟨by kernel_rfl⟩
instance : T.TS 45 := ⟨fun w => Tryz.isAgg45 w⟩
instance : T.TZ 48 [.int .u32 0] := ⟨by kernel_rfl⟩
instance : T.TN 48 1 := ⟨by kernel_rfl⟩
instance : T.TS 48 := ⟨fun w => Tryz.isAgg48 w⟩
instance : T.TZ 28 [.int .i64 0] := ⟨by kernel_rfl⟩
instance : T.TN 28 1 := ⟨by kernel_rfl⟩
instance : T.TS 28 := ⟨fun w => Tryz.isAgg28 w⟩
instance : T.TZ 37 [T.nilS] := ⟨by kernel_rfl⟩
instance : T.TN 37 1 := ⟨by kernel_rfl⟩
instance : T.TS 37 := ⟨fun w => Tryz.isAgg37 w⟩
instance : T.TZ 31 [T.nilS] := ⟨by kernel_rfl⟩
instance : T.TN 31 1 := ⟨by kernel_rfl⟩
instance : T.TS 31 := ⟨fun w => Tryz.isAgg31 w⟩
instance : T.TZ 51 [T.nilS] := ⟨by kernel_rfl⟩
instance : T.TN 51 1 := ⟨by kernel_rfl⟩
instance : T.TS 51 := ⟨fun w => Tryz.isAgg51 w⟩
instance : T.TZ 22 [T.nilS] := ⟨by kernel_rfl⟩
instance : T.TN 22 1 := ⟨by kernel_rfl⟩
instance : T.TS 22 := ⟨fun w => Tryz.isAgg22 w⟩
instance : T.TZ 54 [T.nilS] := ⟨by kernel_rfl⟩
instance : T.TN 54 1 := ⟨by kernel_rfl⟩
instance : T.TS 54 := ⟨fun w => Tryz.isAgg54 w⟩
instance : T.TZ 92 [T.nilS] := ⟨by kernel_rfl⟩
instance : T.TN 92 1 := ⟨by kernel_rfl⟩
instance : T.TS 92 := ⟨fun w => Tryz.isAgg92 w⟩
instance : T.TZ 93 [T.nilS] := ⟨by kernel_rfl⟩
instance : T.TN 93 1 := ⟨by kernel_rfl⟩
instance : T.TS 93 := ⟨fun w => Tryz.isAgg93 w⟩
instance : T.TZ 77 [T.nilS] := ⟨by kernel_rfl⟩
instance : T.TN 77 1 := ⟨by kernel_rfl⟩
instance : T.TS 77 := ⟨fun w => Tryz.isAgg77 w⟩
instance : T.TZ 76 [T.nilS] := ⟨by kernel_rfl⟩
instance : T.TN 76 1 := ⟨by kernel_rfl⟩
instance : T.TS 76 := ⟨fun w => Tryz.isAgg76 w⟩
instance : T.TZ 25 [T.nilS] := ⟨by kernel_rfl⟩
instance : T.TN 25 1 := ⟨by kernel_rfl⟩
instance : T.TS 25 := ⟨fun w => Tryz.isAgg25 w⟩
instance : T.TZ 111 [T.nilS] := ⟨by kernel_rfl⟩
instance : T.TN 111 1 := ⟨by kernel_rfl⟩
instance : T.TS 111 := ⟨fun w => Tryz.isAgg111 w⟩
instance : T.TZ 197 [T.nilS] := ⟨by kernel_rfl⟩
instance : T.TN 197 1 := ⟨by kernel_rfl⟩
instance : T.TS 197 := ⟨fun w => Tryz.isAgg197 w⟩
instance : T.TZ 281 [T.nilS] := ⟨by kernel_rfl⟩
instance : T.TN 281 1 := ⟨by kernel_rfl⟩
instance : T.TS 281 := ⟨fun w => Tryz.isAgg281 w⟩
instance : T.TZ 186 [.pointer none] := ⟨by kernel_rfl⟩
instance : T.TN 186 1 := ⟨by kernel_rfl⟩
instance : T.TS 186 := ⟨fun w => Tryz.isAgg186 w⟩
instance : T.TZ 70 [.pointer none] := ⟨by kernel_rfl⟩
instance : T.TN 70 1 := ⟨by kernel_rfl⟩
instance : T.TS 70 := ⟨fun w => Tryz.isAgg70 w⟩
instance : T.TZ 169 [.pointer none] := ⟨by kernel_rfl⟩
instance : T.TN 169 1 := ⟨by kernel_rfl⟩
instance : T.TS 169 := ⟨fun w => Tryz.isAgg169 w⟩
instance : T.TZ 158 [.pointer none] := ⟨by kernel_rfl⟩
instance : T.TN 158 1 := ⟨by kernel_rfl⟩
instance : T.TS 158 := ⟨fun w => Tryz.isAgg158 w⟩
instance : T.TZ 82 [.pointer none] := ⟨by kernel_rfl⟩
instance : T.TN 82 1 := ⟨by kernel_rfl⟩
instance : T.TS 82 := ⟨fun w => Tryz.isAgg82 w⟩
instance : T.TZ 59 [.pointer none] := ⟨by kernel_rfl⟩
instance : T.TN 59 1 := ⟨by kernel_rfl⟩
instance : T.TS 59 := ⟨fun w => Tryz.isAgg59 w⟩
instance : T.TZ 162 [.nilFunc] := ⟨by kernel_rfl⟩
instance : T.TN 162 1 := ⟨by kernel_rfl⟩
instance : T.TS 162 := ⟨fun w => Tryz.isAgg162 w⟩
instance : T.TZ 86 [.nilFunc] := ⟨by kernel_rfl⟩
instance : T.TN 86 1 := ⟨by kernel_rfl⟩
instance : T.TS 86 := ⟨fun w => Tryz.isAgg86 w⟩
instance : T.TZ 133 [.map none] := ⟨by kernel_rfl⟩
instance : T.TN 133 1 := ⟨by kernel_rfl⟩
instance : T.TS 133 := ⟨fun w => Tryz.isAgg133 w⟩
instance : T.TE 37 5 1 1 := ⟨T.el_of (by kernel_rfl)⟩
instance : T.TE 31 3 1 8 := ⟨T.el_of (by kernel_rfl)⟩
instance : T.TE 51 44 32 32 := ⟨T.el_of (by kernel_rfl)⟩
instance : T.TE 22 56 137 232 := ⟨T.el_of (by kernel_rfl)⟩
instance : T.TE 54 95 2 48 := ⟨T.el_of (by kernel_rfl)⟩
instance : T.TE 92 151 33 40 := ⟨T.el_of (by kernel_rfl)⟩
instance : T.TE 93 154 2 16 := ⟨T.el_of (by kernel_rfl)⟩
instance : T.TE 77 234 35 56 := ⟨T.el_of (by kernel_rfl)⟩
instance : T.TE 76 120 37 72 := ⟨T.el_of (by kernel_rfl)⟩
instance : T.TE 25 53 136 208 := ⟨T.el_of (by kernel_rfl)⟩
instance : T.TE 111 37 1 24 := ⟨T.el_of (by kernel_rfl)⟩
instance : T.TL 37 5 := ⟨Tryz.underlying37⟩
instance : T.TL 31 3 := ⟨Tryz.underlying31⟩
instance : T.TL 51 44 := ⟨Tryz.underlying51⟩
instance : T.TL 22 56 := ⟨Tryz.underlying22⟩
instance : T.TL 54 95 := ⟨Tryz.underlying54⟩
instance : T.TL 92 151 := ⟨Tryz.underlying92⟩
instance : T.TL 93 154 := ⟨Tryz.underlying93⟩
instance : T.TL 77 234 := ⟨Tryz.underlying77⟩
instance : T.TL 76 120 := ⟨Tryz.underlying76⟩
instance : T.TL 25 53 := ⟨Tryz.underlying25⟩
instance : T.TL 111 37 := ⟨Tryz.underlying111⟩
instance : T.TL 197 162 := ⟨Tryz.underlying197⟩
instance : T.TL 281 51 := ⟨Tryz.underlying281⟩
instance : T.TA 44 32 5 := ⟨Tryz.underlying44⟩
instance : T.TA 47 4 45 := ⟨Tryz.underlying47⟩
instance : T.TA 188 8 48 := ⟨Tryz.underlying188⟩
instance : T.TA 226 64 48 := ⟨Tryz.underlying226⟩
instance : T.TA 252 2 44 := ⟨Tryz.underlying252⟩
instance : T.TA 196 6 162 := ⟨Tryz.underlying196⟩
instance : T.TA 88 3 86 := ⟨Tryz.underlying88⟩
section
theorem T.fold_set (vs : List Value) : ∀ (off k : Nat) (cs : Array Value), off + k + vs.length ≤ cs.size →
    (vs.zipIdx k).foldl (fun (cs : Array Value) (p : Value × Nat) => cs.setIfInBounds (off + p.2) p.1) cs = (cs.toList.take (off + k) ++ vs ++ cs.toList.drop (off + k + vs.length)).toArray := by
  induction vs with
  | nil => intro off k cs h; simp
  | cons v vs ih =>
    intro off k cs h
    rw [List.length_cons] at h
    have e1 : (cs.setIfInBounds (off + k) v).toList.take (off + (k + 1)) = cs.toList.take (off + k) ++ [v] := by
      rw [Array.toList_setIfInBounds, show off + (k + 1) = (off + k) + 1 by omega, List.take_add_one]
      simp [List.take_set_of_le, show off + k < cs.size by omega]
    have e2 : (cs.setIfInBounds (off + k) v).toList.drop (off + (k + 1) + vs.length) = cs.toList.drop (off + k + (vs.length + 1)) := by
      rw [Array.toList_setIfInBounds, List.drop_set_of_lt (by omega)]
      congr 1
      omega
    rw [List.zipIdx_cons, List.foldl_cons, ih off (k + 1) _ (by simp; omega), e1, e2, List.length_cons]
    simp
def T.segs (zs : List (List Value)) : List (Nat × Value) → List (List Value)
  | [] => zs
  | (i, v) :: r => T.segs (zs.set i v.cells.toList) r
def T.okp (zs : List (List Value)) : List (Nat × Value) → Prop
  | [] => True
  | (i, v) :: r => (zs[i]?).map List.length = some v.cells.size ∧ T.okp zs r
theorem T.okp_set {zs zs' : List (List Value)} (h : zs.map List.length = zs'.map List.length) : ∀ (p : List (Nat × Value)), T.okp zs p → T.okp zs' p
  | [], _ => trivial
  | (i, v) :: r, hp => ⟨by have := hp.1; rw [← List.getElem?_map, h, List.getElem?_map] at this; exact this, T.okp_set h r hp.2⟩
theorem T.flat_split (zs : List (List Value)) (i : Nat) (z : List Value) (h : zs[i]? = some z) (vs : List Value) :
    zs.flatten.take ((zs.map List.length).take i).sum ++ vs ++ zs.flatten.drop (((zs.map List.length).take i).sum + z.length) = (zs.set i vs).flatten := by
  induction zs generalizing i with
  | nil => simp at h
  | cons a zs ih =>
    cases i with
    | zero => simp at h; subst h; simp
    | succ i =>
      simp only [List.getElem?_cons_succ] at h
      have := ih i h
      simp only [List.map_cons, List.take_succ_cons, List.sum_cons, List.flatten_cons, List.set_cons_succ]
      rw [← this, List.take_append, List.drop_append]
      simp [Nat.add_assoc, List.take_of_length_le, List.drop_eq_nil_of_le]
theorem T.fill_segs (place : Nat → Option (Nat × Nat)) (lens : List Nat) (hpl : ∀ i n, lens[i]? = some n → place i = some ((lens.take i).sum, n)) :
    ∀ (p : List (Nat × Value)) (zs : List (List Value)), zs.map List.length = lens → T.okp zs p → Instr.fill place zs.flatten.toArray p = some (T.segs zs p).flatten.toArray
  | [], zs, _, _ => rfl
  | (i, v) :: r, zs, hl, hp => by
    obtain ⟨h1, h2⟩ := hp
    cases hz : zs[i]? with
    | none => rw [hz] at h1; cases h1
    | some z =>
      rw [hz] at h1
      have hsz : z.length = v.cells.size := Option.some.inj h1
      have hlen : lens[i]? = some z.length := by rw [← hl, List.getElem?_map, hz]; rfl
      have hp1 := hpl i _ hlen
      have hsum : (lens.take i).sum + z.length ≤ zs.flatten.length := by
        have h := T.flat_split zs i z hz z
        have hset : zs.set i z = zs := by
          refine List.ext_getElem? fun k => ?_
          rw [List.getElem?_set]
          split
          · rename_i e; subst e; split
            · exact hz.symm
            · rename_i h'; have := (List.getElem?_eq_some_iff.1 hz).1; omega
          · rfl
        rw [hset, hl] at h
        rcases Nat.lt_or_ge zs.flatten.length ((lens.take i).sum + z.length) with hlt | hge
        · have h' := congrArg List.length h
          simp only [List.length_append, List.length_take, List.length_drop] at h'
          rcases Nat.lt_or_ge zs.flatten.length (lens.take i).sum with h3 | h3
          · rw [Nat.min_eq_right (by omega)] at h'
            have hz0 : z.length = 0 := by omega
            rw [List.length_flatten, hl] at h3
            have : (lens.take i).sum ≤ lens.sum := by
              conv => rhs; rw [← List.take_append_drop i lens, List.sum_append]
              omega
            omega
          · rw [Nat.min_eq_left h3] at h'
            omega
        · exact hge
      unfold Instr.fill
      rw [hp1]
      simp only [hsz, ne_eq, not_true_eq_false, decide_false, Bool.false_or, decide_eq_true_eq]
      rw [if_neg (by simp; rw [hsz] at hsum; exact Nat.le_trans hsum (by simp))]
      have hf := T.fold_set v.cells.toList (lens.take i).sum 0 zs.flatten.toArray (by simp only [Nat.add_zero, List.size_toArray, Array.length_toList]; omega)
      have hf2 : v.cells.zipIdx.foldl (fun (cs : Array Value) (x : Value × Nat) => cs.setIfInBounds ((lens.take i).sum + x.2) x.1) zs.flatten.toArray = (zs.set i v.cells.toList).flatten.toArray := by
        rw [← T.flat_split zs i z hz v.cells.toList, hl]
        simp only [Nat.add_zero, Array.length_toList, ← hsz] at hf
        rw [← hf, ← Array.foldl_toList, Array.toList_zipIdx]
      have hf3 := T.fill_segs place lens hpl r (zs.set i v.cells.toList) (by
        rw [List.map_set, hl]
        refine List.ext_getElem? fun k => ?_
        rw [List.getElem?_set]
        split
        · rename_i e; subst e; split
          · rw [hlen]; simp [hsz]
          · rename_i h'; have := (List.getElem?_eq_some_iff.1 hlen).1; omega
        · rfl) (T.okp_set (by
        rw [List.map_set]
        refine List.ext_getElem? fun k => ?_
        rw [List.getElem?_set]
        split
        · rename_i e; subst e; split
          · rw [List.getElem?_map, hz]; simp [hsz]
          · rename_i h'; have := (List.getElem?_eq_some_iff.1 hz).1; simp at h'; omega
        · rfl) r h2)
      rw [T.segs, ← hf3, ← hf2]
theorem T.bind_pure {α : Type} : ∀ s : Sem α, s.bind Sem.pure = s := by
  intro s
  induction s with
  | pure a => rfl
  | load m a k ih => simp only [Sem.bind, ih]
  | store m a v k ih => simp only [Sem.bind, ih]
  | new o k ih => simp only [Sem.bind, ih]
  | shape r k ih => simp only [Sem.bind, ih]
  | freeze a n k ih => simp only [Sem.bind, ih]
  | frozen a k ih => simp only [Sem.bind, ih]
  | getObj r k ih => simp only [Sem.bind, ih]
  | setObj r o k ih => simp only [Sem.bind, ih]
  | choose q k ih => simp only [Sem.bind, ih]
  | sys c k ih => simp only [Sem.bind, ih]
  | program k ih => simp only [Sem.bind, ih]
  | mark m k ih => simp only [Sem.bind, ih]
  | halt h => rfl
theorem T.bind_assoc {α β γ : Type} (f : α → Sem β) (g : β → Sem γ) : ∀ s : Sem α, (s.bind f).bind g = s.bind fun a => (f a).bind g := by
  intro s
  induction s with
  | pure a => rfl
  | load m a k ih => simp only [Sem.bind, ih]
  | store m a v k ih => simp only [Sem.bind, ih]
  | new o k ih => simp only [Sem.bind, ih]
  | shape r k ih => simp only [Sem.bind, ih]
  | freeze a n k ih => simp only [Sem.bind, ih]
  | frozen a k ih => simp only [Sem.bind, ih]
  | getObj r k ih => simp only [Sem.bind, ih]
  | setObj r o k ih => simp only [Sem.bind, ih]
  | choose q k ih => simp only [Sem.bind, ih]
  | sys c k ih => simp only [Sem.bind, ih]
  | program k ih => simp only [Sem.bind, ih]
  | mark m k ih => simp only [Sem.bind, ih]
  | halt h => rfl
instance T.lawful : LawfulMonad Sem := LawfulMonad.mk' Sem (fun s => T.bind_pure s) (fun _ _ => rfl) (fun s f g => T.bind_assoc f g s)
theorem T.run_mapM {P : Program} {α β : Type} (f : α → Sem β) (g : α → β) (w : World) : ∀ (l : List α), (∀ a ∈ l, (f a).run P w = .ok (g a) w) → (l.mapM f).run P w = .ok (l.map g) w
  | [], _ => by simp
  | a :: l, h => by
    rw [List.mapM_cons]
    simp only [Sem.run_bind, h a List.mem_cons_self, Result.andThen_ok, T.run_mapM f g w l (fun b hb => h b (List.mem_cons_of_mem _ hb)), Sem.run_pure, List.map_cons]
def T.plOk (P : Program) (ty : TypeId) (lens : List Nat) : Bool :=
  match P.underlying ty with
  | some (.struct fields) => (fields.size == lens.length) && ((List.range lens.length).all fun i => match fields[i]? with
    | some f => (f.offset == (lens.take i).sum) && ((P.info? f.type).map (·.size) == lens[i]?)
    | none => false)
  | _ => false
class T.TG (ty : TypeId) (zs : outParam (List (List Value))) : Prop where
  out : ∀ (w : World) (parts : Array (Nat × Value)), T.okp zs parts.toList → (Instr.build ty parts).run Tryz.prog w = .ok (.agg (T.segs zs parts.toList).flatten.toArray) w
theorem T.tg_struct {ty : TypeId} {zs : List (List Value)} (hz : T.zeroOf Tryz.prog ty = some zs.flatten) (hp : T.plOk Tryz.prog ty (zs.map List.length) = true) : T.TG ty zs := ⟨fun w parts hok => by
  unfold T.plOk at hp
  split at hp
  · rename_i fields hu
    obtain ⟨h1, h2⟩ := Bool.and_eq_true_iff.1 hp
    have h1 := T.nbeq h1
    rw [List.all_eq_true] at h2
    obtain ⟨v, hv, hr⟩ := T.run_zero (P := Tryz.prog) ty zs.flatten hz w
    have hget : ∀ i n, (zs.map List.length)[i]? = some n → ∃ f, fields[i]? = some f ∧ f.offset = ((zs.map List.length).take i).sum ∧ (Tryz.prog.info? f.type).map (·.size) = some n := fun i n hn => by
      have h3 := h2 i (List.mem_range.2 (List.getElem?_eq_some_iff.1 hn).1)
      split at h3
      · rename_i f hf
        obtain ⟨h4, h5⟩ := Bool.and_eq_true_iff.1 h3
        refine ⟨f, hf, T.nbeq h4, ?_⟩
        rw [hn] at h5
        simpa using h5
      · cases h3
    have hmap : (fields.mapM fun f : Field => do pure (f.offset, ← sizeOf f.type)).run Tryz.prog w = .ok (fields.toList.map fun f : Field => (f.offset, ((Tryz.prog.info? f.type).map (·.size)).getD 0)).toArray w := by
      rw [Array.mapM_eq_mapM_toList]
      have := T.run_mapM (P := Tryz.prog) (fun f : Field => (do pure (f.offset, ← sizeOf f.type) : Sem (Nat × Nat))) (fun f : Field => (f.offset, ((Tryz.prog.info? f.type).map (·.size)).getD 0)) w fields.toList ?_
      · change Sem.run Tryz.prog ((fields.toList.mapM fun f : Field => (do pure (f.offset, ← sizeOf f.type) : Sem (Nat × Nat))) >>= fun l => pure l.toArray) w = _
        rw [Sem.run_bind, this]
        rfl
      · intro f hf
        obtain ⟨i, hi⟩ := List.getElem?_of_mem hf
        have hi' : i < (zs.map List.length).length := by
          have := (List.getElem?_eq_some_iff.1 hi).1
          rw [Array.length_toList] at this
          omega
        obtain ⟨f', hf', _, hs⟩ := hget i _ (List.getElem?_eq_getElem hi')
        have e : f' = f := by
          rw [Array.getElem?_toList] at hi
          rw [hi] at hf'
          exact (Option.some.inj hf').symm
        subst e
        simp only [Sem.run_bind, T.size_run hs w, Result.andThen_ok, Sem.run_pure, hs, Option.getD_some]
    have hfill := T.fill_segs (fun i => ((fields.toList.map fun f : Field => (f.offset, ((Tryz.prog.info? f.type).map (·.size)).getD 0)).toArray)[i]?) (zs.map List.length) (fun i n hn => by
      obtain ⟨f, hf, ho, hs⟩ := hget i n hn
      simp only [List.getElem?_toArray, List.getElem?_map, Array.getElem?_toList, hf, Option.map_some, ho, hs, Option.getD_some]) parts.toList zs rfl hok
    unfold Instr.build
    simp only [Sem.run_bind, hr, Result.andThen_ok, run_underlying hu w, hmap, hv, hfill, Sem.run_pure]
  · cases hp⟩
section
variable {ops : Array Oper} {rest : List Oper} {op : Oper} {a : Act} {w w0 : World} {Q : Exit → Act → World → Prop} {L L' : List T.Blk} {F : Option Nat}
theorem T.x_build {ty : TypeId} {parts : Array (Nat × Operand)} (ho : op.op = .build ty parts) {zs : List (List Value)} (hG : T.TG ty zs) {ps : List (Nat × Value)} (hp : (parts.map fun (i, x) => (i, a.eval x)).toList = ps) (hok : T.okp zs ps) {cs : List Value} (hcs : (T.segs zs ps).flatten = cs) :
    (execOp a.eval op).run Tryz.prog w = .ok (.value (.agg cs.toArray)) w := by
  have hr := hG.out w (parts.map fun (i, x) => (i, a.eval x)) (by rw [hp]; exact hok)
  rw [hp, hcs] at hr
  unfold execOp
  simp only [ho, hr, Sem.run_bind, Sem.run_pure, Result.andThen_ok]
theorem T.x_buildA0 {ty el : TypeId} {n sz : Nat} {zs : List Value} (ho : op.op = .build ty #[]) (hu : Tryz.prog.underlying ty = some (.array n el)) (hi : (Tryz.prog.info? el).map (·.size) = some sz) (hz : T.zeroOf Tryz.prog ty = some zs) :
    (execOp a.eval op).run Tryz.prog w = .ok (.value (.agg zs.toArray)) w :=
  T.x_buildArr ho hu hi hz (by simp [Instr.fill])
theorem T.x_buildS0 {ty : TypeId} {zs : List Value} {ss : List (List Value)} (ho : op.op = .build ty #[]) (hG : T.TG ty ss) (_ : T.TZ ty zs) (h : ss.flatten = zs) :
    (execOp a.eval op).run Tryz.prog w = .ok (.value (.agg zs.toArray)) w :=
  T.x_build ho hG (ps := []) (by simp) trivial h
theorem T.flat_take (n k size : Nat) (h : k < n) : ((List.replicate n size).take k).sum = k * size := by
  rw [List.take_replicate, Nat.min_eq_left (by omega)]
  simp
theorem T.range_rep (z : List Value) (size n : Nat) (hz : z.length = size) (h0 : 0 < size) : (List.range (n * size)).map (fun i => z.toArray[i % z.toArray.size]!) = (List.replicate n z).flatten := by
  induction n with
  | zero => simp
  | succ k ih =>
    rw [Nat.succ_mul, Nat.add_comm, List.range_add, List.map_append, List.map_map, List.replicate_succ, List.flatten_cons, ← ih]
    congr 1
    · refine List.ext_getElem? fun i => ?_
      rw [List.getElem?_map]
      rcases Nat.lt_or_ge i size with h | h
      · rw [List.getElem?_range h]
        simp [hz, Nat.mod_eq_of_lt h, h, getElem!_pos]
      · rw [List.getElem?_eq_none (by simpa using h), List.getElem?_eq_none (by omega)]
        rfl
    · refine List.map_congr_left fun i _ => ?_
      simp [hz, Nat.add_mod_left]
theorem T.op_buildSl {K : Act → World → Prop} (ty : TypeId) (n : Nat) (parts : Array (Nat × Operand)) (ho : op.op = .buildSlice ty n parts) (el : TypeId) (hu : Tryz.prog.underlying ty = some (.slice el)) (size : Nat) (hi : (Tryz.prog.info? el).map (·.size) = some size)
    (z : List Value) (hz : T.zeroOf Tryz.prog el = some z) (hzl : z.length = size) (hn : n * size ≤ 16777216) (h0 : n * size ≠ 0) (ps : List (Nat × Value)) (hp : (parts.map fun (i, x) => (i, a.eval x)).toList = ps) (hok : T.okp (List.replicate n z) ps) (cs : List Value)
    (hcs : (T.segs (List.replicate n z) ps).flatten = cs) (hM : T.Mem w0 F w L)
    (h : ∀ b w', T.Mem w0 F w' (.b b el cs :: L) → w0.heap.size ≤ b → K (a.put op.dst (.slice (some ⟨b, 0, none⟩) n n)) w') : T.OW Tryz.prog op a w K Q := by
  refine ⟨?_⟩
  have hh := (h _ _ (hM.alloc el cs) hM.grown.size)
  obtain ⟨v, hv, hr⟩ := T.run_zero (P := Tryz.prog) el z hz w
  have hsz := T.size_run hi w
  have hinit : (Array.range (n * size)).map (z.toArray[· % z.toArray.size]!) = (List.replicate n z).flatten.toArray := by
    apply Array.ext'
    rw [Array.toList_map, Array.toList_range]
    refine T.range_rep z size n hzl ?_
    rcases Nat.eq_zero_or_pos size with e | e
    · rw [e] at h0; simp at h0
    · exact e
  have hfill := T.fill_segs (fun i => some (i * size, size)) (List.replicate n size) (fun i m hm => by
    rw [List.getElem?_replicate] at hm
    split at hm
    · cases hm
      rename_i hlt
      rw [T.flat_take n i size hlt]
    · cases hm) ps (List.replicate n z) (by rw [List.map_replicate, hzl]) hok
  have hrun : (Instr.buildSlice ty n (parts.map fun (i, x) => (i, a.eval x))).run Tryz.prog w = .ok (.slice (some ⟨w.heap.size, 0, none⟩) n n) (w.alloc (.cells cs.toArray el)) := by
    unfold Instr.buildSlice
    simp only [Sem.run_bind, run_underlying hu w, Result.andThen_ok, hsz]
    rw [if_neg (by simpa using hn), if_neg h0]
    simp only [Sem.run_bind, hr, Result.andThen_ok, Sem.run_pure, hv, hinit, hp, hfill, hcs]
    simp [newRow]
  unfold Oper.wp execOp
  simp only [ho, hrun, Sem.run_bind, Sem.run_pure, Result.andThen_ok]
  exact hh
end
instance : T.TG 120 [T.u8s T.z32, T.u64s [0, 0, 0, 0], [.int .i64 0]] := T.tg_struct (by kernel_rfl) (by kernel_rfl)
instance : T.TG 50 [[.int .i64 0], T.u8s T.z32, T.u8s T.z32, T.u8s T.z32, T.u8s T.z32, T.u64s [0, 0, 0, 0], [.int .u32 0], [.int .u64 0]] := T.tg_struct (by kernel_rfl) (by kernel_rfl)
instance : T.TG 56 [T.Head.zero.cells, [T.nilS], [T.nilS]] := T.tg_struct (by kernel_rfl) (by kernel_rfl)
instance : T.TG 53 [T.Head.zero.cells, [T.nilS]] := T.tg_struct (by kernel_rfl) (by kernel_rfl)
instance : T.TG 151 [T.u8s T.z32, [.int .i64 0]] := T.tg_struct (by kernel_rfl) (by kernel_rfl)
instance : T.TG 154 [[.int .i64 0], [.int .i64 0]] := T.tg_struct (by kernel_rfl) (by kernel_rfl)
instance : T.TG 234 [T.u8s T.z32 ++ [.int .i64 0], [.int .i64 0, .int .i64 0]] := T.tg_struct (by kernel_rfl) (by kernel_rfl)
instance : T.TG 95 [[T.nilS], [T.nilS]] := T.tg_struct (by kernel_rfl) (by kernel_rfl)
instance : T.TG 79 [T.Head.zero.cells ++ [T.nilS, T.nilS], [T.nilS], [T.nilS]] := T.tg_struct (by kernel_rfl) (by kernel_rfl)
instance : T.TG 160 [T.Head.zero.cells ++ [T.nilS, T.nilS] ++ [T.nilS, T.nilS], T.Head.zero.cells ++ [T.nilS, T.nilS], T.Head.zero.cells, [T.nilS]] := T.tg_struct (by kernel_rfl) (by kernel_rfl)
instance : T.TG 27 [[.int .i64 0], [.int .i64 0], [T.nilS]] := T.tg_struct (by kernel_rfl) (by kernel_rfl)
instance : T.TG 72 [[.int .i64 0, .int .i64 0, T.nilS]] := T.tg_struct (by kernel_rfl) (by kernel_rfl)
instance : T.TG 171 [[T.nilS]] := T.tg_struct (by kernel_rfl) (by kernel_rfl)
instance : T.TG 85 [[.int .i64 0, .int .i64 0, T.nilS], [T.nilS], [.int .i64 0]] := T.tg_struct (by kernel_rfl) (by kernel_rfl)
instance : T.TG 99 [[T.nilS], [.int .i64 0], [.int .i64 0], [T.nilS], [T.nilS]] := T.tg_struct (by kernel_rfl) (by kernel_rfl)
end
end Go.Proofs.YtdklknfgcepcbaaGreat.X
