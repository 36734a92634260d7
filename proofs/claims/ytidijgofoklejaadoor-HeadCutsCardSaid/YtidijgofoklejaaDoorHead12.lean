/- Head texts joined. -/
import Derived.Test.YtidijgofoklejaaDoorHead9
import Derived.Test.YtidijgofoklejaaDoorHead11
