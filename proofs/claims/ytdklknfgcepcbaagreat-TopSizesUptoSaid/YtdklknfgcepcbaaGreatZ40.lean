/- Texts of this proof, laid together by wip/tools/pack.py: TO5. -/
import Derived.Test.YtdklknfgcepcbaaGreatZ39
namespace Go.Proofs.YtdklknfgcepcbaaGreat.X
open Go.RowKit Go.Proofs.YtdklknfgcepcbaaGreatW.PrintWords Go.Proofs.YtdklknfgcepcbaaGreatW.PrintLast Go.Proofs.YtdklknfgcepcbaaGreatW.PrintMore
set_option linter.unusedSimpArgs false
set_option linter.unusedVariables false
set_option maxHeartbeats 2000000
set_option maxRecDepth 20000
section
theorem T.run_arrAt {P : Program} {ty el : TypeId} {m : Nat} (hu : P.underlying ty = some (.array m el)) (A : Option Addr) (n c : Nat) (hn : m ≤ n) (w : World) : (Instr.arrayAt ty (.slice A n c)).run P w = .ok (.pointer A) w := by
  simp [Instr.arrayAt, run_underlying hu, Nat.not_lt.2 hn]
theorem T.gets_take (bs : List Int) (k : Nat) (h : k ≤ bs.length) : T.gets (bs.take k) k = T.gets bs k := by
  have h2 := T.gets_app (bs.take k) (bs.drop k) k (by rw [List.length_take]; omega)
  rw [List.take_append_drop] at h2
  exact h2.symm
theorem T.get0_yes (b o n c' c : Nat) (bs : List Int) (k : Nat) (sz : Int) (hsz : sz = k) (h1 : 1 ≤ k) (h8 : k ≤ 8) (hl : bs.length = n) (hk : k ≤ n) (hc : k ≤ c) (w : World) (hS : T.Sl w (.slice (some ⟨b, o, none⟩) n c') n (T.u8s bs)) :
    Calls Tryz.prog 127 #[.slice (some ⟨b, o, none⟩) k c, .int .i64 0, .int .i64 sz] w (T.E (.tuple #[.int .u64 (T.gets bs k), .bool true]) w) := by
  subst hsz
  have h := T.get_yes b o k c (bs.take k) 0 k h1 h8 (by omega) (by omega) (by rw [List.length_take]; omega) w (by
    have h2 := hS.mid 0 k c hc
    rw [List.drop_zero, T.u8s, encs, ← List.map_take] at h2
    exact h2)
  rw [List.drop_zero, T.gets_take _ _ (by omega)] at h
  exact h
def T.WTake (b o n c k : Nat) (r : Value) (br : Nat) (w0 : World) (L : List T.Blk) (e : Ending) (w' : World) : Prop := e = .returned r ∧ ∃ A' : Option Addr, (k < n → A' = some ⟨b, o + k, none⟩) ∧ T.Mem w0 none w' (.b br 171 [.slice A' (n - k) (c - k)] :: L)
theorem T.take_calls {w0 w : World} {L : List T.Blk} (br b o n c k : Nat) (sz : Int) (hsz : sz = k) (hk : k ≤ n) (hc : n ≤ c) (hM : T.Mem w0 none w (.b br 171 [.slice (some ⟨b, o, none⟩) n c] :: L)) :
    Calls Tryz.prog 128 #[.pointer (some ⟨br, 0, none⟩), .int .i64 sz] w (T.WTake b o n c k (.slice (some ⟨b, o, none⟩) k c) br w0 L) := by
  subst hsz
  have k1 : (0 : Int) ≤ (k : Int) := by omega
  have k2 : (k : Int) ≤ (n : Int) := by omega
  have k3 : (k : Int) ≤ (c : Int) := by omega
  have k4 : (n : Int) ≤ (c : Int) := by omega
  have k5 : k ≤ c := by omega
  generalize hP : T.WTake b o n c k (.slice (some ⟨b, o, none⟩) k c) br w0 L = Post
  by_cases hkc : c = k
  · obtain rfl : n = k := by omega
    obtain rfl : c = n := by omega
    clear hkc k4 k5 hk hc
    go_enter Tryz.func128, Tryz.ntmps128
    repeat' (first | ((((((with_reducible show wpList _ _ _ _ _ _); (refine T.w_o rfl ?_)))); first | ((with_reducible show T.OW _ ⟨_, .load _ _, _, _, _, _⟩ _ _ _ _); ((refine T.ofx (T.x_load rfl rfl T.Fd.out T.TS.out rfl hM) ?_))) | ((with_reducible show T.OW _ ⟨_, .store _ _ _, _, _, _, _⟩ _ _ _ _); ((refine T.op_storeAll _ _ _ rfl _ rfl _ rfl _ _ hM (by (repeat ((exact T.Sub.head _)))) _ T.TN.out (by ((rfl))) (by ((exact T.one_ones rfl))) (by ((rfl))) ?_; clear hM; intro wld hM)))); (try simp only [Act.put, List.setIfInBounds_toArray, List.set_cons_zero, List.set_cons_succ])) | (go_step) | go_back)
    subst hP
    refine ⟨rfl, some ⟨b, o, none⟩, fun h => by omega, ?_⟩
    rw [Nat.sub_self]
    exact hM
  · go_enter Tryz.func128, Tryz.ntmps128
    repeat' (first | ((((((with_reducible show wpList _ _ _ _ _ _); (refine T.w_o rfl ?_)))); first | ((with_reducible show T.OW _ ⟨_, .load _ _, _, _, _, _⟩ _ _ _ _); ((refine T.ofx (T.x_load rfl rfl T.Fd.out T.TS.out rfl hM) ?_))) | ((with_reducible show T.OW _ ⟨_, .store _ _ _, _, _, _, _⟩ _ _ _ _); ((refine T.op_storeAll _ _ _ rfl _ rfl _ rfl _ _ hM (by (repeat ((exact T.Sub.head _)))) _ T.TN.out (by ((rfl))) (by ((exact T.one_ones rfl))) (by ((rfl))) ?_; clear hM; intro wld hM)))); (try simp only [Act.put, List.setIfInBounds_toArray, List.set_cons_zero, List.set_cons_succ])) | (go_step) | go_back)
    subst hP
    exact ⟨rfl, _, fun _ => rfl, hM⟩
theorem T.rid_calls {w0 w : World} {L : List T.Blk} (br b o n c : Nat) (bs : List Int) (hl : bs.length = n) (hk : 32 < n) (hS : T.Sl w0 (.slice (some ⟨b, o, none⟩) n c) n (T.u8s bs)) (hM : T.Mem w0 none w (.b br 171 [.slice (some ⟨b, o, none⟩) n c] :: L)) :
    Calls Tryz.prog 90 #[.pointer (some ⟨br, 0, none⟩)] w fun e w' => e = .returned (.agg (T.u8s (bs.take 32)).toArray) ∧ T.Mem w0 none w' (.b br 171 [.slice (some ⟨b, o + 32, none⟩) (n - 32) (c - 32)] :: L) := by
  have hcap := hS.cap
  have HS := Aside0.mk (show T.Sl w0 (.slice (some ⟨b, o, none⟩) 32 c) 32 (T.u8s (bs.take 32)) by
    have h2 := hS.mid 0 32 c (by omega)
    rw [List.drop_zero, T.u8s, encs, ← List.map_take] at h2
    exact h2)
  have hl32 : (T.u8s (bs.take 32)).length = 32 := by rw [encs_length, List.length_take]; omega
  have hdt : ((T.u8s (bs.take 32)).drop 0).take 32 = T.u8s (bs.take 32) := by rw [List.drop_zero, List.take_of_length_le (by omega)]
  have hz0 : (T.u8s T.z32).length = 32 := rfl
  have HL := Aside0.mk hl
  have hat := T.run_arrAt Tryz.underlying44 (some ⟨b, o, none⟩) 32 c (Nat.le_refl _)
  clear hS hl
  generalize hP : (fun (e : Ending) w' => e = .returned (.agg (T.u8s (bs.take 32)).toArray) ∧ T.Mem w0 none w' (.b br 171 [.slice (some ⟨b, o + 32, none⟩) (n - 32) (c - 32)] :: L)) = Post
  go_enter Tryz.func90, Tryz.ntmps90
  repeat' (first | (go_at_call 128; refine (T.take_calls br b o n c 32 32 rfl (by omega) hcap (hM.perm (List.Perm.swap _ _ _))).mono ?_; rintro _ wr ⟨rfl, A', hA, hM2⟩; (obtain rfl := hA hk); clear hA hM; have hM := hM2; clear hM2) | ((((((with_reducible show wpList _ _ _ _ _ _); (refine T.w_o rfl ?_)))); first | ((with_reducible show T.OW _ ⟨_, .load _ _, _, _, _, _⟩ _ _ _ _); ((refine T.ofx (T.x_slRow (j := 0) rfl rfl (hM.slin HS.out) T.TU.out T.TN.out hdt hl32) ?_))) | ((with_reducible show T.OW _ ⟨_, .store _ _ _, _, _, _, _⟩ _ _ _ _); ((refine T.op_storeAll _ _ _ rfl _ rfl _ rfl _ _ hM (by (repeat (first | exact T.Sub.head _ | apply T.Sub.tail))) _ T.TN.out (by ((with_reducible assumption))) (by ((exact T.ones_encs _ _))) (by ((with_reducible assumption))) ?_; clear hM; intro wld hM))) | ((with_reducible show T.OW _ ⟨_, .alloc _, _, _, _, _⟩ _ _ _ _); refine T.op_alloc _ rfl _ T.TZ.out hM ?_; clear hM; intro blk wld hM hlt)); (try simp only [Act.put, List.setIfInBounds_toArray, List.set_cons_zero, List.set_cons_succ])) | (go_step) | ((fail_if_success (with_reducible show T.Seq _ _ _ _ _ _ _)); (fail_if_success (with_reducible show T.OW _ _ _ _ _ _)); simp only [Int.not_lt, Int.not_le] at *; go_simp))
  (refine T.ret_cell rfl rfl _ rfl _ _ hM T.Fd.out T.TU.out _ T.TN.out (by ((with_reducible assumption))) ?_)
  subst hP
  exact ⟨rfl, hM.drop (by (repeat (first | exact List.Sublist.refl _ | apply List.Sublist.cons_cons | apply List.Sublist.cons)))⟩
theorem T.rnum_calls {w0 w : World} {L : List T.Blk} (br b o n c k : Nat) (bs : List Int) (sz : Int) (hsz : sz = k) (h1 : 1 ≤ k) (h8 : k ≤ 8) (hl : bs.length = n) (hk : k ≤ n) (hS : T.Sl w0 (.slice (some ⟨b, o, none⟩) n c) n (T.u8s bs)) (hM : T.Mem w0 none w (.b br 171 [.slice (some ⟨b, o, none⟩) n c] :: L)) :
    Calls Tryz.prog 89 #[.pointer (some ⟨br, 0, none⟩), .int .i64 sz] w (T.WTake b o n c k (.int .u64 (T.gets bs k)) br w0 L) := by
  have hcap := hS.cap
  have HS := Aside0.mk hS
  have HL := Aside0.mk hl
  have HZ := Aside0.mk hsz
  clear hS hl hsz
  generalize hP : T.WTake b o n c k (.int .u64 (T.gets bs k)) br w0 L = Post
  go_enter Tryz.func89, Tryz.ntmps89
  repeat' (first | (go_at_call 128; refine (T.take_calls br b o n c k _ HZ.out hk hcap hM).mono ?_; rintro _ wr ⟨rfl, A', hA, hM2⟩; have HA := Aside0.mk hA; clear hA hM; have hM := hM2; clear hM2) | (go_at_call 127; refine (T.get0_yes b o n c c bs k _ HZ.out h1 h8 HL.out hk (by omega) _ (hM.slin HS.out)).mono ?_; rintro _ _ ⟨rfl, hbc⟩; replace hM := hM.call hbc; clear hbc) | (go_step) | go_back | ((fail_if_success (with_reducible show T.Seq _ _ _ _ _ _ _)); (fail_if_success (with_reducible show T.OW _ _ _ _ _ _)); simp only [Int.not_lt, Int.not_le] at *; go_simp))
  subst hP
  exact ⟨rfl, _, HA.out, hM⟩
theorem T.seg3 (x y z : List Value) (v : List Value) (cs cs' : List Value) (o n : Nat) (hc : cs = x ++ (y ++ z)) (hx : x.length = o) (hy : y.length = n) (hc' : cs' = x ++ (v ++ z)) : cs.take o ++ v ++ cs.drop (o + n) = cs' := by
  subst hc hx hy hc'
  rw [List.take_left, ← List.drop_drop, List.drop_left, List.drop_left, List.append_assoc]
section
variable (h : T.Head) (k : h.ok)
theorem T.hs0 (v : Int) : h.cells.take 0 ++ [.int .i64 v] ++ h.cells.drop (0 + 1) = (T.Head.mk v h.prev h.links h.txs h.past h.work h.bits h.nonce).cells := rfl
include k
theorem T.hs1 (v : List Int) : h.cells.take 1 ++ T.u8s v ++ h.cells.drop (1 + 32) = (T.Head.mk h.height v h.links h.txs h.past h.work h.bits h.nonce).cells :=
  T.seg3 [.int .i64 h.height] (T.u8s h.prev) _ _ _ _ _ _ rfl rfl (by rw [encs_length, k.prev]) rfl
theorem T.hs2 (v : List Int) : h.cells.take 33 ++ T.u8s v ++ h.cells.drop (33 + 32) = (T.Head.mk h.height h.prev v h.txs h.past h.work h.bits h.nonce).cells :=
  T.seg3 (.int .i64 h.height :: T.u8s h.prev) (T.u8s h.links) (T.u8s h.txs ++ (T.u8s h.past ++ (T.u64s h.work ++ [.int .u32 h.bits, .int .u64 h.nonce]))) _ _ _ _ _ (by simp [T.Head.cells]) (by simp [encs_length, k.prev]) (by rw [encs_length, k.links]) (by simp [T.Head.cells])
theorem T.hs3 (v : List Int) : h.cells.take 65 ++ T.u8s v ++ h.cells.drop (65 + 32) = (T.Head.mk h.height h.prev h.links v h.past h.work h.bits h.nonce).cells :=
  T.seg3 (.int .i64 h.height :: (T.u8s h.prev ++ T.u8s h.links)) (T.u8s h.txs) (T.u8s h.past ++ (T.u64s h.work ++ [.int .u32 h.bits, .int .u64 h.nonce])) _ _ _ _ _ (by simp [T.Head.cells]) (by simp [encs_length, k.prev, k.links]) (by rw [encs_length, k.txs]) (by simp [T.Head.cells])
theorem T.hs4 (v : List Int) : h.cells.take 97 ++ T.u8s v ++ h.cells.drop (97 + 32) = (T.Head.mk h.height h.prev h.links h.txs v h.work h.bits h.nonce).cells :=
  T.seg3 (.int .i64 h.height :: (T.u8s h.prev ++ (T.u8s h.links ++ T.u8s h.txs))) (T.u8s h.past) (T.u64s h.work ++ [.int .u32 h.bits, .int .u64 h.nonce]) _ _ _ _ _ (by simp [T.Head.cells]) (by simp [encs_length, k.prev, k.links, k.txs]) (by rw [encs_length, k.past]) (by simp [T.Head.cells])
theorem T.hs5 (v : List Int) : h.cells.take 129 ++ T.u64s v ++ h.cells.drop (129 + 4) = (T.Head.mk h.height h.prev h.links h.txs h.past v h.bits h.nonce).cells :=
  T.seg3 (.int .i64 h.height :: (T.u8s h.prev ++ (T.u8s h.links ++ (T.u8s h.txs ++ T.u8s h.past)))) (T.u64s h.work) [.int .u32 h.bits, .int .u64 h.nonce] _ _ _ _ _ (by simp [T.Head.cells]) (by simp [encs_length, k.prev, k.links, k.txs, k.past]) (by rw [encs_length, k.work]) (by simp [T.Head.cells])
theorem T.hs6 (v : Int) : h.cells.take 133 ++ [.int .u32 v] ++ h.cells.drop (133 + 1) = (T.Head.mk h.height h.prev h.links h.txs h.past h.work v h.nonce).cells :=
  T.seg3 (.int .i64 h.height :: (T.u8s h.prev ++ (T.u8s h.links ++ (T.u8s h.txs ++ (T.u8s h.past ++ T.u64s h.work))))) [.int .u32 h.bits] [.int .u64 h.nonce] _ _ _ _ _ (by simp [T.Head.cells]) (by simp [encs_length, k.prev, k.links, k.txs, k.past, k.work]) rfl (by simp [T.Head.cells])
theorem T.hs7 (v : Int) : h.cells.take 134 ++ [.int .u64 v] ++ h.cells.drop (134 + 1) = (T.Head.mk h.height h.prev h.links h.txs h.past h.work h.bits v).cells :=
  T.seg3 (.int .i64 h.height :: (T.u8s h.prev ++ (T.u8s h.links ++ (T.u8s h.txs ++ (T.u8s h.past ++ (T.u64s h.work ++ [.int .u32 h.bits])))))) [.int .u64 h.nonce] [] _ _ _ _ _ (by simp [T.Head.cells]) (by simp [encs_length, k.prev, k.links, k.txs, k.past, k.work]) rfl (by simp [T.Head.cells])
end
def T.hread (bs : List Int) : T.Head :=
  ⟨wrap64 (T.gets bs 4), (bs.drop 4).take 32, (bs.drop 36).take 32, (bs.drop 68).take 32, (bs.drop 100).take 32, T.of32 ((bs.drop 132).take 32), T.gets (bs.drop 164) 4 % 4294967296, T.gets (bs.drop 168) 8⟩
theorem T.rsl {w : World} {b o c n m : Nat} {bs : List Int} (h : T.Sl w (.slice (some ⟨b, o, none⟩) n c) n (T.u8s bs)) (k : Nat) (hm : n - k = m) : T.Sl w (.slice (some ⟨b, o + k, none⟩) m (c - k)) m (T.u8s (bs.drop k)) := by
  subst hm
  have h2 := h.hi (i := k) (k := 1)
  rw [Nat.mul_one] at h2
  rwa [T.u8s, encs, ← List.map_drop] at h2
theorem T.rid3 {w0 w : World} {L : List T.Blk} (br : Nat) (x : Value) (bs : List Int) (N p : Nat) (hN : bs.length = N) (hp : p + 32 < N) (hS : T.Sl w0 x (N - p) (T.u8s (bs.drop p))) (hM : T.Mem w0 none w (.b br 171 [x] :: L)) :
    Calls Tryz.prog 90 #[.pointer (some ⟨br, 0, none⟩)] w fun e w' => e = .returned (.agg (T.u8s ((bs.drop p).take 32)).toArray) ∧ ∃ x', T.Sl w0 x' (N - (p + 32)) (T.u8s (bs.drop (p + 32))) ∧ T.Mem w0 none w' (.b br 171 [x'] :: L) := by
  obtain ⟨A, c, rfl, _⟩ := id hS
  obtain ⟨b, o, rfl⟩ := hS.adr (by omega)
  refine (T.rid_calls br b o (N - p) c (bs.drop p) (by rw [List.length_drop, hN]) (by omega) hS hM).mono ?_
  rintro e w' ⟨rfl, hM2⟩
  refine ⟨rfl, _, ?_, hM2⟩
  have h := T.rsl hS 32 (m := N - (p + 32)) (by omega)
  rw [List.drop_drop] at h
  rw [show N - p - 32 = N - (p + 32) by omega]
  exact h
theorem T.rnum3 {w0 w : World} {L : List T.Blk} (br : Nat) (x : Value) (bs : List Int) (N p k : Nat) (sz : Int) (hsz : sz = k) (h1 : 1 ≤ k) (h8 : k ≤ 8) (hN : bs.length = N) (hp : p + k ≤ N) (hS : T.Sl w0 x (N - p) (T.u8s (bs.drop p))) (hM : T.Mem w0 none w (.b br 171 [x] :: L)) :
    Calls Tryz.prog 89 #[.pointer (some ⟨br, 0, none⟩), .int .i64 sz] w fun e w' => e = .returned (.int .u64 (T.gets (bs.drop p) k)) ∧ ∃ x', (p + k < N → T.Sl w0 x' (N - (p + k)) (T.u8s (bs.drop (p + k)))) ∧ T.Mem w0 none w' (.b br 171 [x'] :: L) := by
  obtain ⟨A, c, rfl, _⟩ := id hS
  obtain ⟨b, o, rfl⟩ := hS.adr (by omega)
  refine (T.rnum_calls br b o (N - p) c k (bs.drop p) sz hsz h1 h8 (by rw [List.length_drop, hN]) (by omega) hS hM).mono ?_
  rintro e w' ⟨rfl, A', hA, hM2⟩
  refine ⟨rfl, _, fun hlt => ?_, hM2⟩
  obtain rfl := hA (by omega)
  have h := T.rsl hS k (m := N - (p + k)) (by omega)
  rw [List.drop_drop] at h
  rw [show N - p - k = N - (p + k) by omega]
  exact h
theorem T.rnum4 {w0 w : World} {L : List T.Blk} (br : Nat) (x : Value) (bs : List Int) (N p : Nat) (sz : Int) (h1 : 1 ≤ sz) (h8 : sz ≤ 8) (hN : bs.length = N) (hp : p + sz.toNat ≤ N) (hS : T.Sl w0 x (N - p) (T.u8s (bs.drop p))) (hM : T.Mem w0 none w (.b br 171 [x] :: L)) :
    Calls Tryz.prog 89 #[.pointer (some ⟨br, 0, none⟩), .int .i64 sz] w fun e w' => e = .returned (.int .u64 (T.gets (bs.drop p) sz.toNat)) ∧ ∃ x', (p + sz.toNat < N → T.Sl w0 x' (N - (p + sz.toNat)) (T.u8s (bs.drop (p + sz.toNat)))) ∧ T.Mem w0 none w' (.b br 171 [x'] :: L) :=
  T.rnum3 br x bs N p sz.toNat sz (by omega) (by omega) (by omega) hN hp hS hM
theorem T.hread_calls (bs : List Int) (hl : bs.length = 176) (hh : (T.hread bs).height ≤ 1048576) (A : Option Addr) (c : Nat) (w : World) (hS0 : T.Sl w (.slice A 176 c) 176 (T.u8s bs)) :
    Calls Tryz.prog 48 #[.slice A 176 c] w (T.E (.tuple #[.agg (T.hread bs).cells.toArray, .bool true]) w) := by
  have hM := T.Mem.start w
  have HS := Aside0.mk (show T.Sl w (.slice A 176 c) (176 - 0) (T.u8s (bs.drop 0)) from hS0)
  have HL := Aside0.mk hl
  have ql : ∀ p, p + 32 ≤ 176 → ((bs.drop p).take 32).length = 32 := fun p hp => by rw [List.length_take, List.length_drop, hl]; omega
  have q1 := ql 4 (by omega)
  have q2 := ql 36 (by omega)
  have q3 := ql 68 (by omega)
  have q4 := ql 100 (by omega)
  have q5 := ql 132 (by omega)
  have q6 : (T.u64s (T.of32 ((bs.drop 132).take 32))).length = 4 := by rw [encs_length]; exact T.of32_len _
  have q7 := T.of32_len ((bs.drop 132).take 32)
  have d1 : decide (1048576 < wrap64 (T.gets bs 4)) = false := decide_eq_false (by have h3 : (T.hread bs).height = wrap64 (T.gets bs 4) := rfl; omega)
  have hz : T.Head.zero.cells.length = 135 := rfl
  clear ql hl hh hS0
  have qk : (T.hread bs).ok := ⟨q1, q2, q3, q4, q7⟩
  have qh := (T.hread bs).len qk
  have qo := (T.hread bs).ones
  clear qk
  unfold T.hread at qh qo ⊢
  generalize hP : T.E (.tuple #[.agg _, .bool true]) w = Post
  go_enter Tryz.func48, Tryz.ntmps48
  repeat' (first | (go_at_call 89; refine (T.rnum4 _ _ bs 176 _ _ (of_decide_eq_true rfl) (of_decide_eq_true rfl) HL.out (of_decide_eq_true rfl) HS.out (hM.perm (List.Perm.swap _ _ _))).mono ?_; rintro _ wr ⟨rfl, x2, hS2, hM2⟩; clear hM HS; have hM := hM2.perm (List.Perm.swap _ _ _); clear hM2; simp only [T.toNat4, T.toNat8] at hS2 ⊢; (first | have HS := Aside0.mk (hS2 (by decide)) | have HS := Aside0.mk True.intro); clear hS2; (try simp only [Nat.reduceAdd, Nat.zero_add] at HS); (try simp only [List.drop_zero])) | (go_at_call 90; refine (T.rid3 _ _ bs 176 _ HL.out (by decide) HS.out (hM.perm (List.Perm.swap _ _ _))).mono ?_; rintro _ wr ⟨rfl, x2, hS2, hM2⟩; clear hM HS; have hM := hM2.perm (List.Perm.swap _ _ _); clear hM2; have HS := Aside0.mk hS2; clear hS2; simp only [Nat.reduceAdd] at HS) | (go_at_call 69; refine (T.of32_calls _ q5 _).mono ?_; rintro _ _ ⟨rfl, hbc⟩; replace hM := hM.call hbc; clear hbc) | ((with_reducible show wpList _ _ _ (⟨_, .store 3 _ _, _, _, _, _⟩ :: _) _ _); refine T.w_o rfl ?_; refine T.op_store _ _ _ rfl _ 0 rfl ([.int .i64 _]) rfl _ (T.Head.cells _) _ hM (by (repeat ((exact T.Sub.head _)))) 1 T.TN.out rfl (by ((exact T.one_ones rfl))) (by rw [T.Head.len _ (by (refine T.Head.ok.mk ?_ ?_ ?_ ?_ ?_ <;> (rfl)))]; decide) (T.hs0 _ _) ?_; clear hM; intro wld hM; (try simp only [Act.put, List.setIfInBounds_toArray, List.set_cons_zero, List.set_cons_succ])) | ((with_reducible show wpList _ _ _ (⟨_, .store 44 _ _, _, _, _, _⟩ :: _) _ _); refine T.w_o rfl ?_; refine T.op_store _ _ _ rfl _ 1 rfl (T.u8s _) rfl _ (T.Head.cells _) _ hM (by (repeat ((exact T.Sub.head _)))) 32 T.TN.out (by (((rw [encs_length]; with_reducible assumption)))) (by ((exact T.ones_encs _ _))) (by rw [T.Head.len _ (by (refine T.Head.ok.mk ?_ ?_ ?_ ?_ ?_ <;> first | with_reducible assumption | rfl))]; decide) (T.hs1 _ (by (refine T.Head.ok.mk ?_ ?_ ?_ ?_ ?_ <;> first | with_reducible assumption | rfl)) _) ?_; clear hM; intro wld hM; (try dsimp only at hM); (try simp only [Act.put, List.setIfInBounds_toArray, List.set_cons_zero, List.set_cons_succ])) | ((with_reducible show wpList _ _ _ (⟨_, .store 44 _ _, _, _, _, _⟩ :: _) _ _); refine T.w_o rfl ?_; refine T.op_store _ _ _ rfl _ 33 rfl (T.u8s _) rfl _ (T.Head.cells _) _ hM (by (repeat ((exact T.Sub.head _)))) 32 T.TN.out (by (((rw [encs_length]; with_reducible assumption)))) (by ((exact T.ones_encs _ _))) (by rw [T.Head.len _ (by (refine T.Head.ok.mk ?_ ?_ ?_ ?_ ?_ <;> first | with_reducible assumption | rfl))]; decide) (T.hs2 _ (by (refine T.Head.ok.mk ?_ ?_ ?_ ?_ ?_ <;> first | with_reducible assumption | rfl)) _) ?_; clear hM; intro wld hM; (try dsimp only at hM); (try simp only [Act.put, List.setIfInBounds_toArray, List.set_cons_zero, List.set_cons_succ])) | ((with_reducible show wpList _ _ _ (⟨_, .store 44 _ _, _, _, _, _⟩ :: _) _ _); refine T.w_o rfl ?_; refine T.op_store _ _ _ rfl _ 65 rfl (T.u8s _) rfl _ (T.Head.cells _) _ hM (by (repeat ((exact T.Sub.head _)))) 32 T.TN.out (by (((rw [encs_length]; with_reducible assumption)))) (by ((exact T.ones_encs _ _))) (by rw [T.Head.len _ (by (refine T.Head.ok.mk ?_ ?_ ?_ ?_ ?_ <;> first | with_reducible assumption | rfl))]; decide) (T.hs3 _ (by (refine T.Head.ok.mk ?_ ?_ ?_ ?_ ?_ <;> first | with_reducible assumption | rfl)) _) ?_; clear hM; intro wld hM; (try dsimp only at hM); (try simp only [Act.put, List.setIfInBounds_toArray, List.set_cons_zero, List.set_cons_succ])) | ((with_reducible show wpList _ _ _ (⟨_, .store 44 _ _, _, _, _, _⟩ :: _) _ _); refine T.w_o rfl ?_; refine T.op_store _ _ _ rfl _ 97 rfl (T.u8s _) rfl _ (T.Head.cells _) _ hM (by (repeat ((exact T.Sub.head _)))) 32 T.TN.out (by (((rw [encs_length]; with_reducible assumption)))) (by ((exact T.ones_encs _ _))) (by rw [T.Head.len _ (by (refine T.Head.ok.mk ?_ ?_ ?_ ?_ ?_ <;> first | with_reducible assumption | rfl))]; decide) (T.hs4 _ (by (refine T.Head.ok.mk ?_ ?_ ?_ ?_ ?_ <;> first | with_reducible assumption | rfl)) _) ?_; clear hM; intro wld hM; (try dsimp only at hM); (try simp only [Act.put, List.setIfInBounds_toArray, List.set_cons_zero, List.set_cons_succ])) | ((with_reducible show wpList _ _ _ (⟨_, .store 47 _ _, _, _, _, _⟩ :: _) _ _); refine T.w_o rfl ?_; refine T.op_store _ _ _ rfl _ 129 rfl (T.u64s _) rfl _ (T.Head.cells _) _ hM (by (repeat ((exact T.Sub.head _)))) 4 T.TN.out (by ((with_reducible assumption))) (by ((exact T.ones_encs _ _))) (by rw [T.Head.len _ (by (refine T.Head.ok.mk ?_ ?_ ?_ ?_ ?_ <;> first | with_reducible assumption | rfl))]; decide) (T.hs5 _ (by (refine T.Head.ok.mk ?_ ?_ ?_ ?_ ?_ <;> first | with_reducible assumption | rfl)) _) ?_; clear hM; intro wld hM; (try dsimp only at hM); (try simp only [Act.put, List.setIfInBounds_toArray, List.set_cons_zero, List.set_cons_succ])) | ((with_reducible show wpList _ _ _ (⟨_, .store 48 _ _, _, _, _, _⟩ :: _) _ _); refine T.w_o rfl ?_; refine T.op_store _ _ _ rfl _ 133 rfl ([.int .u32 _]) rfl _ (T.Head.cells _) _ hM (by (repeat ((exact T.Sub.head _)))) 1 T.TN.out rfl (by ((exact T.one_ones rfl))) (by rw [T.Head.len _ (by (refine T.Head.ok.mk ?_ ?_ ?_ ?_ ?_ <;> (with_reducible assumption)))]; decide) (T.hs6 _ (by (refine T.Head.ok.mk ?_ ?_ ?_ ?_ ?_ <;> (with_reducible assumption))) _) ?_; clear hM; intro wld hM; (try dsimp only at hM); (try simp only [Act.put, List.setIfInBounds_toArray, List.set_cons_zero, List.set_cons_succ])) | ((with_reducible show wpList _ _ _ (⟨_, .store 45 _ _, _, _, _, _⟩ :: _) _ _); refine T.w_o rfl ?_; refine T.op_store _ _ _ rfl _ 134 rfl ([.int .u64 _]) rfl _ (T.Head.cells _) _ hM (by (repeat ((exact T.Sub.head _)))) 1 T.TN.out rfl (by ((exact T.one_ones rfl))) (by rw [T.Head.len _ (by (refine T.Head.ok.mk ?_ ?_ ?_ ?_ ?_ <;> (with_reducible assumption)))]; decide) (T.hs7 _ (by (refine T.Head.ok.mk ?_ ?_ ?_ ?_ ?_ <;> (with_reducible assumption))) _) ?_; clear hM; intro wld hM; (try dsimp only at hM); (try simp only [Act.put, List.setIfInBounds_toArray, List.set_cons_zero, List.set_cons_succ])) | ((((((with_reducible show wpList _ _ _ _ _ _); (refine T.w_o rfl ?_)))); first | ((with_reducible show T.OW _ ⟨_, .load _ _, _, _, _, _⟩ _ _ _ _); first | (refine T.ofx (T.x_load rfl rfl T.Fd.out T.TS.out rfl hM) ?_) | (refine T.ofx (T.x_loadAll rfl rfl T.Fd.out T.TU.out T.TN.out (by ((with_reducible assumption))) hM) ?_)) | ((with_reducible show T.OW _ ⟨_, .store _ _ _, _, _, _, _⟩ _ _ _ _); ((refine T.op_storeAll _ _ _ rfl _ rfl _ rfl _ _ hM (by (repeat (first | exact T.Sub.head _ | apply T.Sub.tail))) _ T.TN.out (by ((with_reducible assumption))) (by ((with_reducible assumption))) (by ((with_reducible assumption))) ?_; clear hM; intro wld hM))) | ((with_reducible show T.OW _ ⟨_, .alloc _, _, _, _, _⟩ _ _ _ _); refine T.op_alloc _ rfl _ T.TZ.out hM ?_; clear hM; intro blk wld hM hlt) | ((with_reducible show T.OW _ ⟨_, .box _ _, _, _, _, _⟩ _ _ _ _); refine T.op_box _ _ rfl _ rfl hM ?_; clear hM; intro blk wld hM hlt) | ((with_reducible show T.OW _ ⟨_, .build _ _, _, _, _, _⟩ _ _ _ _); ((refine T.ofx (T.x_build rfl inferInstance rfl (by (((simp [T.okp, Value.cells, Act.eval, *]; done)))) rfl) ?_; (try simp only [List.map_toArray, List.map_cons, List.map_nil, Act.eval, Array.getD_eq_getD_getElem?, List.toList_toArray, List.getElem?_toArray, List.getElem?_cons_zero, List.getElem?_cons_succ, Option.getD_some, T.segs, List.replicate_succ, List.replicate_zero, List.set_cons_zero, List.set_cons_succ, Value.cells, List.flatten_cons, List.flatten_nil, List.append_nil, List.cons_append, List.nil_append]))))); (try simp only [Act.put, List.setIfInBounds_toArray, List.set_cons_zero, List.set_cons_succ])) | (go_step) | ((fail_if_success (with_reducible show T.Seq _ _ _ _ _ _ _)); (fail_if_success (with_reducible show T.OW _ _ _ _ _ _)); simp only [Int.not_lt, Int.not_le] at *; go_simp))
  (refine T.ret_ct rfl rfl _ rfl _ rfl _ _ hM T.Fd.out T.TU.out _ T.TN.out (by ((with_reducible assumption))) ?_)
  subst hP
  exact ⟨rfl, hM.below⟩
end
end Go.Proofs.YtdklknfgcepcbaaGreat.X
